/- Walks of Go functions, each against a plain function over numbers and lists; written by this session's program printx.py over the kit's print; no condition but those that each theorem states. -/
import Derived.Test.YtabfaoghacamlaaHx0
import Derived.Test.YtabfaoghacamlaaHx1
import Derived.Test.YtabfaoghacamlaaHx3
import Derived.Test.YtabfaoghacamlaaHx4
namespace Go.Proofs.Ytabfaoghacamlaa.H
open Go.Proofs.Ytabfaoghacamlaa.Q
open Go.RowKit Go.Proofs.YtabfaoghacamlaaW.PrintWords Go.Proofs.YtabfaoghacamlaaW.PrintLast Go.Proofs.YtabfaoghacamlaaW.PrintMore
attribute [local go_sem] max2_int min2_int max_two min_two max_three min_three max_four min_four   -- for this text's walks alone
set_option linter.unusedVariables false
set_option linter.unusedSimpArgs false

/-! ### samphirelaw17_SlotsHolds: function 3 -/
mutual
def samphirelaw17_SlotsHolds.j0 : Nat → List (S35) → List Int → Int → Int → Bool → Int → Int → List ByteArray → Option (Bool)
 | 0, _, _, _, _, _, _, _, _ => none
 | k + 1, x1, x2, x7, x9, x40, x229000, x229001, x229002 => if x40 = true then (if x9 = 0 then ((samphirelaw17_awake.f k).bind fun t229 => (some t229)) else (none)) else (samphirelaw17_SlotsHolds.l0 k x7 0 ([] : List ByteArray) x1 (x1.length : Int) 0 x229000 x229001 x229002 x2 0)
def samphirelaw17_SlotsHolds.l0 : Nat → Int → Int → List ByteArray → List (S35) → Int → Int → Int → Int → List ByteArray → List Int → Int → Option (Bool)
 | 0, _, _, _, _, _, _, _, _, _, _, _ => none
 | k + 1, x7, x11, x12, x48, x49, x50, x229000, x229001, x229002, x231000, x231001 => if x50 < x49 then (if 0 ≤ x50 then (if x50 < (x48.length : Int) then (if (((rd_T35 x48 x50).f0).size : Int) > 64 then (samphirelaw17_SlotsHolds.j2 k x7 x11 x12 x48 x49 x50 true x229000 x229001 x229002 x231000 x231001 ((rd_T35 x48 x50).f0) ((rd_T35 x48 x50).f1)) else (if ((rd_T35 x48 x50).f1) = 0 then (samphirelaw17_SlotsHolds.j2 k x7 x11 x12 x48 x49 x50 true x229000 x229001 x229002 x231000 x231001 ((rd_T35 x48 x50).f0) ((rd_T35 x48 x50).f1)) else (samphirelaw17_SlotsHolds.j2 k x7 x11 x12 x48 x49 x50 (decide (((rd_T35 x48 x50).f1) > 1125899906842624)) x229000 x229001 x229002 x231000 x231001 ((rd_T35 x48 x50).f0) ((rd_T35 x48 x50).f1)))) else (none)) else (none)) else ((samphirelaw17_awake.f k).bind fun t231 => (some t231))
def samphirelaw17_SlotsHolds.j2 : Nat → Int → Int → List ByteArray → List (S35) → Int → Int → Bool → Int → Int → List ByteArray → List Int → Int → ByteArray → Int → Option (Bool)
 | 0, _, _, _, _, _, _, _, _, _, _, _, _, _, _ => none
 | k + 1, x7, x11, x12, x48, x49, x50, x67, x229000, x229001, x229002, x231000, x231001, x234000, x234001 => if x67 = true then ((samphirelaw17_awake.f k).bind fun t234 => (some t234)) else ((slots_Add.f k x229000 x229001 x229002 x234000 x234001 x231000 x231001).bind fun bt235 => (if bt235.2.2.2.2.2 = 0 then (if x12.length < 8796093022208 then ((some (x12 ++ [x234000] : List ByteArray)).bind fun y259 => (if bt235.2.1 = (IntKind.u64.wrap (x11 + x234001)) then (if (bt235.2.2.1.length : Int) = x7 then ((slots_Right.f bt235.1 bt235.2.1 bt235.2.2.1).bind fun t262 => (samphirelaw17_SlotsHolds.j3 k x7 (IntKind.u64.wrap (x11 + x234001)) y259 x48 x49 x50 (!t262) bt235.1 bt235.2.1 bt235.2.2.1 bt235.2.2.2.1 bt235.2.2.2.2.1)) else (none)) else (none))) else (none)) else (if bt235.2.2.2.2.2 = 8 then ((samphirelaw17_ref.f bt235.1 bt235.2.1 bt235.2.2.1).bind fun bt247 => ((samphirelaw17_ref.f x229000 x229001 x229002).bind fun bt252 => ((samphireref17_Same.f k bt247.1 bt247.2.1 bt247.2.2 bt252.1 bt252.2.1 bt252.2.2).bind fun t257 => (if t257 = true then (if bt235.2.2.2.2.1 = x231001 then ((samphirelaw17_awake.f k).bind fun t258 => (some t258)) else (none)) else (none))))) else (none))))
def samphirelaw17_SlotsHolds.j3 : Nat → Int → Int → List ByteArray → List (S35) → Int → Int → Bool → Int → Int → List ByteArray → List Int → Int → Option (Bool)
 | 0, _, _, _, _, _, _, _, _, _, _, _, _ => none
 | k + 1, x7, x11, x12, x48, x49, x50, x127, x229000, x229001, x229002, x231000, x231001 => if x127 = true then (none) else (samphirelaw17_SlotsHolds.l1 k x7 x11 x12 x48 x49 x50 x229002 (x229002.length : Int) 0 x229000 x229001 x229002 x231000 x231001)
def samphirelaw17_SlotsHolds.l1 : Nat → Int → Int → List ByteArray → List (S35) → Int → Int → List ByteArray → Int → Int → Int → Int → List ByteArray → List Int → Int → Option (Bool)
 | 0, _, _, _, _, _, _, _, _, _, _, _, _, _, _ => none
 | k + 1, x7, x11, x12, x48, x49, x50, x129, x130, x131, x229000, x229001, x229002, x231000, x231001 => if x131 < x130 then (if 0 ≤ x131 then (if x131 < (x129.length : Int) then ((samphireref16_Count.f k x12 (rdOf ByteArray.empty x129 x131)).bind fun t264 => (if t264 = 0 then (none) else (samphirelaw17_SlotsHolds.l1 k x7 x11 x12 x48 x49 x50 x129 x130 (wrap64 (x131 + 1)) x229000 x229001 x229002 x231000 x231001))) else (none)) else (none)) else (samphirelaw17_SlotsHolds.l0 k x7 x11 x12 x48 x49 (wrap64 (x50 + 1)) x229000 x229001 x229002 x231000 x231001)
end
def samphirelaw17_SlotsHolds.f (k : Nat) (a0 : Int) (l1 : List (S35)) (l2 : List Int) : Option (Bool) := (slots_New.f (wrap64 (1 + (wrap64 (Int.tmod a0 10))))).bind fun bt222 => (if bt222.2.2.2 = 0 then (if (l1.length : Int) > 30 then (samphirelaw17_SlotsHolds.j0 k l1 l2 (wrap64 (1 + (wrap64 (Int.tmod a0 10)))) bt222.2.2.2 true bt222.1 bt222.2.1 bt222.2.2.1) else (samphirelaw17_SlotsHolds.j0 k l1 l2 (wrap64 (1 + (wrap64 (Int.tmod a0 10)))) bt222.2.2.2 (decide ((l2.length : Int) > 300)) bt222.1 bt222.2.1 bt222.2.2.1)) else (none))
theorem samphirelaw17_SlotsHolds.mono_l : ∀ k, (∀ y0 y1 y2 y3 y4 y5 y6 y7, LeO (samphirelaw17_SlotsHolds.j0 k y0 y1 y2 y3 y4 y5 y6 y7) (samphirelaw17_SlotsHolds.j0 (k + 1) y0 y1 y2 y3 y4 y5 y6 y7)) ∧ (∀ y0 y1 y2 y3 y4 y5 y6 y7 y8 y9 y10, LeO (samphirelaw17_SlotsHolds.l0 k y0 y1 y2 y3 y4 y5 y6 y7 y8 y9 y10) (samphirelaw17_SlotsHolds.l0 (k + 1) y0 y1 y2 y3 y4 y5 y6 y7 y8 y9 y10)) ∧ (∀ y0 y1 y2 y3 y4 y5 y6 y7 y8 y9 y10 y11 y12 y13, LeO (samphirelaw17_SlotsHolds.j2 k y0 y1 y2 y3 y4 y5 y6 y7 y8 y9 y10 y11 y12 y13) (samphirelaw17_SlotsHolds.j2 (k + 1) y0 y1 y2 y3 y4 y5 y6 y7 y8 y9 y10 y11 y12 y13)) ∧ (∀ y0 y1 y2 y3 y4 y5 y6 y7 y8 y9 y10 y11, LeO (samphirelaw17_SlotsHolds.j3 k y0 y1 y2 y3 y4 y5 y6 y7 y8 y9 y10 y11) (samphirelaw17_SlotsHolds.j3 (k + 1) y0 y1 y2 y3 y4 y5 y6 y7 y8 y9 y10 y11)) ∧ (∀ y0 y1 y2 y3 y4 y5 y6 y7 y8 y9 y10 y11 y12 y13, LeO (samphirelaw17_SlotsHolds.l1 k y0 y1 y2 y3 y4 y5 y6 y7 y8 y9 y10 y11 y12 y13) (samphirelaw17_SlotsHolds.l1 (k + 1) y0 y1 y2 y3 y4 y5 y6 y7 y8 y9 y10 y11 y12 y13))
 | 0 => ⟨fun _ _ _ _ _ _ _ _ r h => by simp [samphirelaw17_SlotsHolds.j0] at h, fun _ _ _ _ _ _ _ _ _ _ _ r h => by simp [samphirelaw17_SlotsHolds.l0] at h, fun _ _ _ _ _ _ _ _ _ _ _ _ _ _ r h => by simp [samphirelaw17_SlotsHolds.j2] at h, fun _ _ _ _ _ _ _ _ _ _ _ _ r h => by simp [samphirelaw17_SlotsHolds.j3] at h, fun _ _ _ _ _ _ _ _ _ _ _ _ _ _ r h => by simp [samphirelaw17_SlotsHolds.l1] at h⟩
 | k + 1 => by
  obtain ⟨ih0, ih1, ih2, ih3, ih4⟩ := samphirelaw17_SlotsHolds.mono_l k
  refine ⟨?_, ?_, ?_, ?_, ?_⟩
  ·
   intro y0 y1 y2 y3 y4 y5 y6 y7
   unfold samphirelaw17_SlotsHolds.j0
   repeat' first
   | (with_reducible exact ih0 _ _ _ _ _ _ _ _)
   | (with_reducible exact ih1 _ _ _ _ _ _ _ _ _ _ _)
   | (with_reducible exact ih2 _ _ _ _ _ _ _ _ _ _ _ _ _ _)
   | (with_reducible exact ih3 _ _ _ _ _ _ _ _ _ _ _ _)
   | (with_reducible exact ih4 _ _ _ _ _ _ _ _ _ _ _ _ _ _)
   | (with_reducible exact samphirelaw17_awake.mono _)
   | (with_reducible exact samphireref16_Count.mono _ _ _)
   | (with_reducible exact samphireref17_Same.mono _ _ _ _ _ _ _)
   | (with_reducible exact slots_Add.mono _ _ _ _ _ _ _ _)
   | (with_reducible exact LeO.refl _)
   | (with_reducible exact LeO.none _)
   | (with_reducible refine LeO.ite ?_ ?_)
   | (with_reducible refine LeO.bind ?_ (fun _ => ?_))
   | exact ih0 _ _ _ _ _ _ _ _
   | exact ih1 _ _ _ _ _ _ _ _ _ _ _
   | exact ih2 _ _ _ _ _ _ _ _ _ _ _ _ _ _
   | exact ih3 _ _ _ _ _ _ _ _ _ _ _ _
   | exact ih4 _ _ _ _ _ _ _ _ _ _ _ _ _ _
   | exact samphirelaw17_awake.mono _
   | exact samphireref16_Count.mono _ _ _
   | exact samphireref17_Same.mono _ _ _ _ _ _ _
   | exact slots_Add.mono _ _ _ _ _ _ _ _
   | exact LeO.none _
   | refine LeO.ite ?_ ?_
   | refine LeO.bind ?_ (fun _ => ?_)
  ·
   intro y0 y1 y2 y3 y4 y5 y6 y7 y8 y9 y10
   unfold samphirelaw17_SlotsHolds.l0
   repeat' first
   | (with_reducible exact ih0 _ _ _ _ _ _ _ _)
   | (with_reducible exact ih1 _ _ _ _ _ _ _ _ _ _ _)
   | (with_reducible exact ih2 _ _ _ _ _ _ _ _ _ _ _ _ _ _)
   | (with_reducible exact ih3 _ _ _ _ _ _ _ _ _ _ _ _)
   | (with_reducible exact ih4 _ _ _ _ _ _ _ _ _ _ _ _ _ _)
   | (with_reducible exact samphirelaw17_awake.mono _)
   | (with_reducible exact samphireref16_Count.mono _ _ _)
   | (with_reducible exact samphireref17_Same.mono _ _ _ _ _ _ _)
   | (with_reducible exact slots_Add.mono _ _ _ _ _ _ _ _)
   | (with_reducible exact LeO.refl _)
   | (with_reducible exact LeO.none _)
   | (with_reducible refine LeO.ite ?_ ?_)
   | (with_reducible refine LeO.bind ?_ (fun _ => ?_))
   | exact ih0 _ _ _ _ _ _ _ _
   | exact ih1 _ _ _ _ _ _ _ _ _ _ _
   | exact ih2 _ _ _ _ _ _ _ _ _ _ _ _ _ _
   | exact ih3 _ _ _ _ _ _ _ _ _ _ _ _
   | exact ih4 _ _ _ _ _ _ _ _ _ _ _ _ _ _
   | exact samphirelaw17_awake.mono _
   | exact samphireref16_Count.mono _ _ _
   | exact samphireref17_Same.mono _ _ _ _ _ _ _
   | exact slots_Add.mono _ _ _ _ _ _ _ _
   | exact LeO.none _
   | refine LeO.ite ?_ ?_
   | refine LeO.bind ?_ (fun _ => ?_)
  ·
   intro y0 y1 y2 y3 y4 y5 y6 y7 y8 y9 y10 y11 y12 y13
   unfold samphirelaw17_SlotsHolds.j2
   repeat' first
   | (with_reducible exact ih0 _ _ _ _ _ _ _ _)
   | (with_reducible exact ih1 _ _ _ _ _ _ _ _ _ _ _)
   | (with_reducible exact ih2 _ _ _ _ _ _ _ _ _ _ _ _ _ _)
   | (with_reducible exact ih3 _ _ _ _ _ _ _ _ _ _ _ _)
   | (with_reducible exact ih4 _ _ _ _ _ _ _ _ _ _ _ _ _ _)
   | (with_reducible exact samphirelaw17_awake.mono _)
   | (with_reducible exact samphireref16_Count.mono _ _ _)
   | (with_reducible exact samphireref17_Same.mono _ _ _ _ _ _ _)
   | (with_reducible exact slots_Add.mono _ _ _ _ _ _ _ _)
   | (with_reducible exact LeO.refl _)
   | (with_reducible exact LeO.none _)
   | (with_reducible refine LeO.ite ?_ ?_)
   | (with_reducible refine LeO.bind ?_ (fun _ => ?_))
   | exact ih0 _ _ _ _ _ _ _ _
   | exact ih1 _ _ _ _ _ _ _ _ _ _ _
   | exact ih2 _ _ _ _ _ _ _ _ _ _ _ _ _ _
   | exact ih3 _ _ _ _ _ _ _ _ _ _ _ _
   | exact ih4 _ _ _ _ _ _ _ _ _ _ _ _ _ _
   | exact samphirelaw17_awake.mono _
   | exact samphireref16_Count.mono _ _ _
   | exact samphireref17_Same.mono _ _ _ _ _ _ _
   | exact slots_Add.mono _ _ _ _ _ _ _ _
   | exact LeO.none _
   | refine LeO.ite ?_ ?_
   | refine LeO.bind ?_ (fun _ => ?_)
  ·
   intro y0 y1 y2 y3 y4 y5 y6 y7 y8 y9 y10 y11
   unfold samphirelaw17_SlotsHolds.j3
   repeat' first
   | (with_reducible exact ih0 _ _ _ _ _ _ _ _)
   | (with_reducible exact ih1 _ _ _ _ _ _ _ _ _ _ _)
   | (with_reducible exact ih2 _ _ _ _ _ _ _ _ _ _ _ _ _ _)
   | (with_reducible exact ih3 _ _ _ _ _ _ _ _ _ _ _ _)
   | (with_reducible exact ih4 _ _ _ _ _ _ _ _ _ _ _ _ _ _)
   | (with_reducible exact samphirelaw17_awake.mono _)
   | (with_reducible exact samphireref16_Count.mono _ _ _)
   | (with_reducible exact samphireref17_Same.mono _ _ _ _ _ _ _)
   | (with_reducible exact slots_Add.mono _ _ _ _ _ _ _ _)
   | (with_reducible exact LeO.refl _)
   | (with_reducible exact LeO.none _)
   | (with_reducible refine LeO.ite ?_ ?_)
   | (with_reducible refine LeO.bind ?_ (fun _ => ?_))
   | exact ih0 _ _ _ _ _ _ _ _
   | exact ih1 _ _ _ _ _ _ _ _ _ _ _
   | exact ih2 _ _ _ _ _ _ _ _ _ _ _ _ _ _
   | exact ih3 _ _ _ _ _ _ _ _ _ _ _ _
   | exact ih4 _ _ _ _ _ _ _ _ _ _ _ _ _ _
   | exact samphirelaw17_awake.mono _
   | exact samphireref16_Count.mono _ _ _
   | exact samphireref17_Same.mono _ _ _ _ _ _ _
   | exact slots_Add.mono _ _ _ _ _ _ _ _
   | exact LeO.none _
   | refine LeO.ite ?_ ?_
   | refine LeO.bind ?_ (fun _ => ?_)
  ·
   intro y0 y1 y2 y3 y4 y5 y6 y7 y8 y9 y10 y11 y12 y13
   unfold samphirelaw17_SlotsHolds.l1
   repeat' first
   | (with_reducible exact ih0 _ _ _ _ _ _ _ _)
   | (with_reducible exact ih1 _ _ _ _ _ _ _ _ _ _ _)
   | (with_reducible exact ih2 _ _ _ _ _ _ _ _ _ _ _ _ _ _)
   | (with_reducible exact ih3 _ _ _ _ _ _ _ _ _ _ _ _)
   | (with_reducible exact ih4 _ _ _ _ _ _ _ _ _ _ _ _ _ _)
   | (with_reducible exact samphirelaw17_awake.mono _)
   | (with_reducible exact samphireref16_Count.mono _ _ _)
   | (with_reducible exact samphireref17_Same.mono _ _ _ _ _ _ _)
   | (with_reducible exact slots_Add.mono _ _ _ _ _ _ _ _)
   | (with_reducible exact LeO.refl _)
   | (with_reducible exact LeO.none _)
   | (with_reducible refine LeO.ite ?_ ?_)
   | (with_reducible refine LeO.bind ?_ (fun _ => ?_))
   | exact ih0 _ _ _ _ _ _ _ _
   | exact ih1 _ _ _ _ _ _ _ _ _ _ _
   | exact ih2 _ _ _ _ _ _ _ _ _ _ _ _ _ _
   | exact ih3 _ _ _ _ _ _ _ _ _ _ _ _
   | exact ih4 _ _ _ _ _ _ _ _ _ _ _ _ _ _
   | exact samphirelaw17_awake.mono _
   | exact samphireref16_Count.mono _ _ _
   | exact samphireref17_Same.mono _ _ _ _ _ _ _
   | exact slots_Add.mono _ _ _ _ _ _ _ _
   | exact LeO.none _
   | refine LeO.ite ?_ ?_
   | refine LeO.bind ?_ (fun _ => ?_)
theorem samphirelaw17_SlotsHolds.mono : ∀ a0 a1 a2 k, LeO (samphirelaw17_SlotsHolds.f k a0 a1 a2) (samphirelaw17_SlotsHolds.f (k + 1) a0 a1 a2) := by
 intro a0 a1 a2 k
 obtain ⟨ih0, ih1, ih2, ih3, ih4⟩ := samphirelaw17_SlotsHolds.mono_l k
 unfold samphirelaw17_SlotsHolds.f
 repeat' first
   | (with_reducible exact ih0 _ _ _ _ _ _ _ _)
   | (with_reducible exact ih1 _ _ _ _ _ _ _ _ _ _ _)
   | (with_reducible exact ih2 _ _ _ _ _ _ _ _ _ _ _ _ _ _)
   | (with_reducible exact ih3 _ _ _ _ _ _ _ _ _ _ _ _)
   | (with_reducible exact ih4 _ _ _ _ _ _ _ _ _ _ _ _ _ _)
   | (with_reducible exact samphirelaw17_awake.mono _)
   | (with_reducible exact samphireref16_Count.mono _ _ _)
   | (with_reducible exact samphireref17_Same.mono _ _ _ _ _ _ _)
   | (with_reducible exact slots_Add.mono _ _ _ _ _ _ _ _)
   | (with_reducible exact LeO.refl _)
   | (with_reducible exact LeO.none _)
   | (with_reducible refine LeO.ite ?_ ?_)
   | (with_reducible refine LeO.bind ?_ (fun _ => ?_))
   | exact ih0 _ _ _ _ _ _ _ _
   | exact ih1 _ _ _ _ _ _ _ _ _ _ _
   | exact ih2 _ _ _ _ _ _ _ _ _ _ _ _ _ _
   | exact ih3 _ _ _ _ _ _ _ _ _ _ _ _
   | exact ih4 _ _ _ _ _ _ _ _ _ _ _ _ _ _
   | exact samphirelaw17_awake.mono _
   | exact samphireref16_Count.mono _ _ _
   | exact samphireref17_Same.mono _ _ _ _ _ _ _
   | exact slots_Add.mono _ _ _ _ _ _ _ _
   | exact LeO.none _
   | refine LeO.ite ?_ ?_
   | refine LeO.bind ?_ (fun _ => ?_)
def samphirelaw17_SlotsHolds.T15 : Bool × List (List Nat × List Nat) := (true, [([], []), ([0], [0]), ([1], [1]), ([2], [2]), ([3, 2, 2], [2, 3]), ([2], [2]), ([5, 4, 2], [2, 5]), ([4, 6, 6, 2], [2, 4, 6]), ([2, 7], [2, 7]), ([8, 7], [8]), ([9], [9]), ([10, 9], [9, 10]), ([9], [9]), ([12, 9], [9, 12]), ([11, 13, 9], [9, 11, 13]), ([9, 14], [9, 14]), ([15, 9], [15]), ([16, 16], [16]), ([16, 17], [16, 17]), ([18, 17, 0, 1, 2, 3, 4, 5, 6, 7, 8, 9, 10, 11, 12, 13, 14, 15, 16, 17, 18], [18])])
def samphirelaw17_SlotsHolds.B15 : List Nat := [0, 1, 3, 7, 15, 7, 63, 127, 255, 511, 1023, 2047, 1023, 5119, 16383, 32767, 65535, 131071, 262143, 524287]
theorem samphirelaw17_SlotsHolds.tab15 : rtab .any (opsOf Try.f3 15) = samphirelaw17_SlotsHolds.T15 := by kernel_rfl
theorem samphirelaw17_SlotsHolds.bits15 : waitsOk samphirelaw17_SlotsHolds.T15.2 samphirelaw17_SlotsHolds.B15 = true := by kernel_rfl
def samphirelaw17_SlotsHolds.T16 : Bool × List (List Nat × List Nat) := (true, [([], []), ([], []), ([], []), ([], []), ([3], [3]), ([2, 4], [2, 4]), ([], []), ([], []), ([7], [7]), ([8], [8]), ([6, 9], [6, 9]), ([0, 10, 0], [0]), ([1, 11, 0, 1, 11], [1]), ([5, 12, 0, 1, 2, 3, 4, 5, 11, 12], [2, 5]), ([10, 13, 0, 1, 2, 3, 4, 5, 6, 7, 8, 9, 10, 11, 12, 13], [6, 10])])
def samphirelaw17_SlotsHolds.B16 : List Nat := [0, 0, 0, 0, 8, 28, 0, 0, 128, 384, 960, 1985, 4035, 8191, 16383]
theorem samphirelaw17_SlotsHolds.tab16 : rtab .any (opsOf Try.f3 16) = samphirelaw17_SlotsHolds.T16 := by kernel_rfl
theorem samphirelaw17_SlotsHolds.bits16 : waitsOk samphirelaw17_SlotsHolds.T16.2 samphirelaw17_SlotsHolds.B16 = true := by kernel_rfl
set_option maxHeartbeats 8000000 in
set_option maxRecDepth 100000 in
theorem samphirelaw17_SlotsHolds.calls (k : Nat) (a0 : Int) (A1 : Option Addr) (c1 : Nat) (l1 : List (S35)) (P2_ : Nat → Prop) (A2 : Option Addr) (c2 : Nat) (l2 : List Int) (r : Bool) (w : World) (hr1 : Kd.C k35 w A1 l1.length l1) (hc1 : l1.length ≤ c1) (hs2 : Kd.V (Kd.int .u64) 24 w w.heap.size (fun k_ => P2_ k_) (.slice A2 l2.length c2) l2) (h : samphirelaw17_SlotsHolds.f k a0 l1 l2 = some r) :
  Calls Try.prog 3 #[.int .u8 a0, .slice A1 l1.length c1, .slice A2 l2.length c2] w fun e w' => e = .returned (.bool r) ∧ Below w.heap.size w w' := by
 have hu27 := Try.underlying27
 have hu33 := Try.underlying33
 have hu35 := Try.underlying35
 have HR1 := Aside0.mk hr1
 have HC1 := Aside0.mk hc1
 clear hr1 hc1
 have HO2 := Aside0.mk (show Kd.V (Kd.int .u64) 24 w w.heap.size (fun k_ => (P2_ k_ ∨ w.heap.size ≤ k_)) (.slice A2 l2.length c2) l2 from Kd.V_mono hs2 (fun k_ hk => .inl hk))
 have HB := Aside0.mk (Below.refl w.heap.size w)
 have H : ((slots_New.f (wrap64 (1 + (wrap64 (Int.tmod a0 10))))).bind fun bt222 => (if bt222.2.2.2 = 0 then (if (l1.length : Int) > 30 then (samphirelaw17_SlotsHolds.j0 k l1 l2 (wrap64 (1 + (wrap64 (Int.tmod a0 10)))) bt222.2.2.2 true bt222.1 bt222.2.1 bt222.2.2.1) else (samphirelaw17_SlotsHolds.j0 k l1 l2 (wrap64 (1 + (wrap64 (Int.tmod a0 10)))) bt222.2.2.2 (decide ((l2.length : Int) > 300)) bt222.1 bt222.2.1 bt222.2.2.1)) else (none))) = some r := h
 clear h
 replace H := Option.bind_eq_some_iff.mp H
 obtain ⟨⟨t222, t223, t224, t227⟩, A40, H⟩ := H
 replace H : (if t227 = 0 then (if (l1.length : Int) > 30 then (samphirelaw17_SlotsHolds.j0 k l1 l2 (wrap64 (1 + (wrap64 (Int.tmod a0 10)))) t227 true t222 t223 t224) else (samphirelaw17_SlotsHolds.j0 k l1 l2 (wrap64 (1 + (wrap64 (Int.tmod a0 10)))) t227 (decide ((l2.length : Int) > 300)) t222 t223 t224)) else (none)) = some r := H
 have A4 := Aside0.mk A40
 clear A40
 have HC5 := Aside0.mk H
 clear H
 go_enter Try.func3, Try.ntmps3
 go_upto_region 3 with (first | ((with_reducible refine gate_callee (f := 8) rfl ?_); refine goesL_ (some 26) rfl rfl Try.func8 (by kernel_rfl) rfl #[.int .i64 (wrap64 (1 + (wrap64 (Int.tmod a0 10))))] rfl (by (try simp only [List.map_toArray, List.map_cons, List.map_nil]); first | done | rfl | (simp only [List.length_drop, List.length_take]; rfl)) ?_; (with_reducible refine (slots_New.calls (wrap64 (1 + (wrap64 (Int.tmod a0 10)))) t222 t223 t224 t227 _ A4.out).mono ?_); rintro e w6 ⟨v225, rfl, ho0, hb⟩; refine ⟨_, rfl, ?_⟩; have n0_ := Aside0.mk (Kd.V_elder' (by (with_reducible repeat (first | apply Kd.V_alloc | apply Kd.V_drewN | apply Kd.V_drew)); exact HO2.out) (Kd.R_base ho0) hb); have n1_ := Aside0.mk (Kd.R_lower (Kd.R_newM (M := fun k_ => (w.heap.size ≤ k_)) ho0 (below_size (by repeat (first | (with_reducible first | exact HB.out | apply below_alloc | apply pw_below_drewN | apply below_drew1) | exact HB.out))) (fun k_ h_ => h_)) (below_size (by repeat (first | (with_reducible first | exact HB.out | apply below_alloc | apply pw_below_drewN | apply below_drew1) | exact HB.out)))); have n2_ := Aside0.mk (below_step (by repeat (first | (with_reducible first | exact HB.out | apply below_alloc | apply pw_below_drewN | apply below_drew1) | exact HB.out)) hb); clear HO2; clear HB; have HO2 := n0_; have HO226 := n1_; have HB := n2_; clear n0_ n1_ n2_; (try clear hb); (try clear hb2); (try clear hk); (try clear hi); (try clear ho0)) | ((with_reducible refine gate_dst (N := 8) rfl ?_); (try (refine gate_guard (by rfl) ?_; dsimp only)); refine box_event ?hg (N := 8) ?hd (cs := #[.int .i64 0, .int .u64 0, .slice none 0 0]) (t := 27) ?hr ?_; (case hd => rfl); (case hg => rfl); (case hr => first | (go_simp; done) | (go_simp; rfl)); intro gb228 hg w7 hbox hb; have n0_ := Aside0.mk (Kd.V_below (Kd.V_elderB (by (with_reducible repeat (first | apply Kd.V_alloc | apply Kd.V_drewN | apply Kd.V_drew)); exact HO2.out) gb228 (Nat.le_of_eq hg.symm)) hb); have n1_ := Aside0.mk (Kd.R_below (by (with_reducible repeat (first | apply Kd.R_alloc | apply Kd.R_drewN | apply Kd.R_drew)); exact HO226.out) hb); have n2_ := Aside0.mk (below_step (by repeat (first | (with_reducible first | exact HB.out | apply below_alloc | apply pw_below_drewN | apply below_drew1) | exact HB.out)) hb); have n3_ := Aside0.mk (hbox); have n4_ := Aside0.mk ((by rw [hg]; exact (below_size (by repeat (first | (with_reducible first | exact HB.out | apply below_alloc | apply pw_below_drewN | apply below_drew1) | exact HB.out))) : w.heap.size ≤ gb228)); have n5_ := Aside0.mk ((by rw [hg]; exact (below_size (by repeat (first | (with_reducible first | exact HB.out | apply below_alloc | apply pw_below_drewN | apply below_drew1) | exact HB.out))) : w.heap.size ≤ gb228)); clear HO2; clear HO226; clear HB; have HO2 := n0_; have HO226 := n1_; have HB := n2_; have BK228 := n3_; have GW228 := n4_; have GE228 := n5_; clear n0_ n1_ n2_ n3_ n4_ n5_; clear hb hbox hg; have hcz8_0 : w7.cell? ⟨gb228, 0, none⟩ = some (.int .i64 0) := (blk_cell BK228.out 0).trans rfl; have hcz8_1 : w7.cell? ⟨gb228, 1, none⟩ = some (.int .u64 0) := (blk_cell BK228.out 1).trans rfl; have hcz8_2 : w7.cell? ⟨gb228, 2, none⟩ = some (.slice none 0 0) := (blk_cell BK228.out 2).trans rfl; have hfz8_0 := blk_frozen BK228.out 0; have hfz8_1 := blk_frozen BK228.out 1; have hfz8_2 := blk_frozen BK228.out 2; obtain ⟨Ao9, co9, eo9⟩ := Kd.R_slice HO226.out; subst eo9))
 (try simp only [Act.put, List.setIfInBounds_toArray, List.set_cons_zero, List.set_cons_succ])
 go_cut [40] (fun v40 wc => ∃ (kq : Nat) (x40_4 : Bool), v40 = .bool x40_4 ∧ Aside0 (samphirelaw17_SlotsHolds.j0 kq l1 l2 (wrap64 (1 + (wrap64 (Int.tmod a0 10)))) t227 x40_4 t222 t223 t224 = some r) ∧ Aside0 (kq ≤ k) ∧ Aside0 (Kd.V (Kd.int .u64) 24 wc w.heap.size (fun k_ => (P2_ k_ ∨ w.heap.size ≤ k_) ∧ some k_ ≠ ((.slice Ao9 t224.length co9) : Value).ownBlock ∧ k_ ≠ gb228) (.slice A2 l2.length c2) l2) ∧ Aside0 (Kd.R Kd.string 9 wc w.heap.size (fun k_ => (w.heap.size ≤ k_)) (.slice Ao9 t224.length co9) t224) ∧ Aside0 (wc.heap[gb228]? = some (.cells #[.int .i64 t222, .int .u64 t223, (.slice Ao9 t224.length co9)] 27 (0, 0))) ∧ Aside0 (Below w.heap.size w wc))
 case first =>
  have H := HC5.out
  clear HC5
  by_cases c10 : t227 = 0
  ·
   rw [if_pos c10] at H
   have c10b0 : (t227 == 0) = true := beq_iff_eq.mpr c10
   have c10b1 : (t227 != 0) = false := bne_eq_false_iff_eq.mpr c10
   clear c10
   (first | rw [c10b0] | (simp only [i64_w, i32_w]; rw [c10b0]) | skip)
   by_cases c11 : (l1.length : Int) > 30
   ·
    rw [if_pos c11] at H
    have c11b0 : decide (30 < (l1.length : Int)) = true := decide_eq_true c11
    have c11b1 : decide (30 < l1.length) = true := decide_eq_true (by omega)
    clear c11
    have H' := Aside0.mk H
    clear H
    go_wp2
    go_meet
    case rel => exact ⟨_, (true), (by first | rfl | (simp; done) | (simp [*]; done)), H', ⟨by first | omega | exact Nat.le_refl _⟩, ⟨by (with_reducible repeat (first | apply Kd.V_alloc | apply Kd.V_drewN | apply Kd.V_drew)); exact Kd.V_mono (Kd.V_far (p := ⟨gb228, 2, none⟩) (Kd.V_far (p := ⟨gb228, 1, none⟩) (Kd.V_far (p := ⟨gb228, 0, none⟩) (Kd.V_mono HO2.out (fun k_ hk => (⟨hk, hk.2⟩ : _ ∧ k_ ≠ gb228))) (fun _ hk => hk.2) (.int .i64 t222)) (fun _ hk => hk.2) (.int .u64 t223)) (fun _ hk => hk.2) (.slice Ao9 t224.length co9)) (fun _ hk => ⟨hk.1.1.1, ⟨hk.1.1.2, hk.1.2⟩⟩)⟩, ⟨by (with_reducible repeat (first | apply Kd.R_alloc | apply Kd.R_drewN | apply Kd.R_drew)); exact Kd.R_mono (Kd.R_far (p := ⟨gb228, 2, none⟩) (Kd.R_far (p := ⟨gb228, 1, none⟩) (Kd.R_far (p := ⟨gb228, 0, none⟩) (Kd.R_types HO226.out BK228.out (by decide)) (fun _ hk => hk.2) (.int .i64 t222)) (fun _ hk => hk.2) (.int .u64 t223)) (fun _ hk => hk.2) (.slice Ao9 t224.length co9)) (fun _ hk => hk.1.1)⟩, ⟨by (with_reducible repeat (first | refine blk_drewN ?_ _ | refine blk_drew ?_ | refine blk_alloc ?_ _)); refine blk_put (cs := #[.int .i64 t222, .int .u64 t223, .slice none 0 0]) ?_ 2 _ rfl; (with_reducible repeat (first | refine blk_drewN ?_ _ | refine blk_drew ?_ | refine blk_alloc ?_ _)); refine blk_put (cs := #[.int .i64 t222, .int .u64 0, .slice none 0 0]) ?_ 1 _ rfl; (with_reducible repeat (first | refine blk_drewN ?_ _ | refine blk_drew ?_ | refine blk_alloc ?_ _)); refine blk_put (cs := #[.int .i64 0, .int .u64 0, .slice none 0 0]) ?_ 0 _ rfl; (with_reducible repeat (first | refine blk_drewN ?_ _ | refine blk_drew ?_ | refine blk_alloc ?_ _)); exact BK228.out⟩, ⟨by repeat (first | (with_reducible first | exact HB.out | apply below_alloc | apply pw_below_drewN | apply below_drew1 | refine below_set ?_ GE228.out) | exact HB.out)⟩⟩
   ·
    rw [if_neg c11] at H
    have c11b0 : decide (30 < (l1.length : Int)) = false := decide_eq_false c11
    have c11b1 : decide (30 < l1.length) = false := decide_eq_false (by omega)
    clear c11
    have H' := Aside0.mk H
    clear H
    go_wp2
    go_meet
    case rel => exact ⟨_, (decide ((l2.length : Int) > 300)), (by first | rfl | (simp; done) | (simp [*]; done)), H', ⟨by first | omega | exact Nat.le_refl _⟩, ⟨by (with_reducible repeat (first | apply Kd.V_alloc | apply Kd.V_drewN | apply Kd.V_drew)); exact Kd.V_mono (Kd.V_far (p := ⟨gb228, 2, none⟩) (Kd.V_far (p := ⟨gb228, 1, none⟩) (Kd.V_far (p := ⟨gb228, 0, none⟩) (Kd.V_mono HO2.out (fun k_ hk => (⟨hk, hk.2⟩ : _ ∧ k_ ≠ gb228))) (fun _ hk => hk.2) (.int .i64 t222)) (fun _ hk => hk.2) (.int .u64 t223)) (fun _ hk => hk.2) (.slice Ao9 t224.length co9)) (fun _ hk => ⟨hk.1.1.1, ⟨hk.1.1.2, hk.1.2⟩⟩)⟩, ⟨by (with_reducible repeat (first | apply Kd.R_alloc | apply Kd.R_drewN | apply Kd.R_drew)); exact Kd.R_mono (Kd.R_far (p := ⟨gb228, 2, none⟩) (Kd.R_far (p := ⟨gb228, 1, none⟩) (Kd.R_far (p := ⟨gb228, 0, none⟩) (Kd.R_types HO226.out BK228.out (by decide)) (fun _ hk => hk.2) (.int .i64 t222)) (fun _ hk => hk.2) (.int .u64 t223)) (fun _ hk => hk.2) (.slice Ao9 t224.length co9)) (fun _ hk => hk.1.1)⟩, ⟨by (with_reducible repeat (first | refine blk_drewN ?_ _ | refine blk_drew ?_ | refine blk_alloc ?_ _)); refine blk_put (cs := #[.int .i64 t222, .int .u64 t223, .slice none 0 0]) ?_ 2 _ rfl; (with_reducible repeat (first | refine blk_drewN ?_ _ | refine blk_drew ?_ | refine blk_alloc ?_ _)); refine blk_put (cs := #[.int .i64 t222, .int .u64 0, .slice none 0 0]) ?_ 1 _ rfl; (with_reducible repeat (first | refine blk_drewN ?_ _ | refine blk_drew ?_ | refine blk_alloc ?_ _)); refine blk_put (cs := #[.int .i64 0, .int .u64 0, .slice none 0 0]) ?_ 0 _ rfl; (with_reducible repeat (first | refine blk_drewN ?_ _ | refine blk_drew ?_ | refine blk_alloc ?_ _)); exact BK228.out⟩, ⟨by repeat (first | (with_reducible first | exact HB.out | apply below_alloc | apply pw_below_drewN | apply below_drew1 | refine below_set ?_ GE228.out) | exact HB.out)⟩⟩
  ·
   rw [if_neg c10] at H; cases H
 case rest =>
  clear HC5
  try clear c1
  try clear c2
  try clear p2
  try clear c3
  try clear p6
  try clear c8
  try clear c10
  try clear c10b0
  try clear c10b1
  try clear c11
  try clear c11b0
  try clear c11b1
  try clear hcz8_0
  try clear hcz8_1
  try clear hcz8_2
  try clear hfz8_0
  try clear hfz8_1
  try clear hfz8_2
  obtain ⟨kq, x40_4, rfl, HA, HJ4, HO_2, HO_229002, BK228, HB⟩ := hcut
  cases kq with
  | zero => exact absurd HA.out (by simp [samphirelaw17_SlotsHolds.j0])
  | succ kj4 =>
   have H := HA.out
   clear HA
   simp only [samphirelaw17_SlotsHolds.j0] at H
   by_cases c12 : x40_4 = true
   ·
    subst c12
    have H1 : (if t227 = 0 then ((samphirelaw17_awake.f kj4).bind fun t229 => (some t229)) else (none)) = some r := by rw [if_pos rfl] at H; exact H
    clear H
    have H := H1
    clear H1
    by_cases c13 : t227 = 0
    ·
     rw [if_pos c13] at H
     have c13b0 : (t227 == 0) = true := beq_iff_eq.mpr c13
     have c13b1 : (t227 != 0) = false := bne_eq_false_iff_eq.mpr c13
     clear c13
     replace H := Option.bind_eq_some_iff.mp H
     obtain ⟨t229, A140, H⟩ := H
     replace H : (some t229) = some r := H
     have A14 := Aside0.mk A140
     clear A140
     obtain rfl := Option.some.inj H
     go_wp2_with (first | (go_at_call 9; (with_reducible refine (samphirelaw17_awake.calls kj4  t229 _ A14.out).mono ?_); rintro e w15 ⟨rfl, hb⟩; have n0_ := Aside0.mk (Kd.V_below (by (with_reducible repeat (first | apply Kd.V_alloc | apply Kd.V_drewN | apply Kd.V_drew)); exact HO_2.out) hb); have n1_ := Aside0.mk (Kd.R_below (by (with_reducible repeat (first | apply Kd.R_alloc | apply Kd.R_drewN | apply Kd.R_drew)); exact HO_229002.out) hb); have n2_ := Aside0.mk (blk_below (g := gb228) (o := .cells #[.int .i64 t222, .int .u64 t223, .slice Ao9 t224.length co9] 27 (0, 0)) (by (with_reducible repeat (first | refine blk_drewN ?_ _ | refine blk_drew ?_ | refine blk_alloc ?_ _)); exact BK228.out) hb); have n3_ := Aside0.mk (below_step (by repeat (first | (with_reducible first | exact HB.out | apply below_alloc | apply pw_below_drewN | apply below_drew1 | refine below_set ?_ GE228.out) | exact HB.out)) hb); clear HO_2; clear HO_229002; clear BK228; clear HB; have HO_2 := n0_; have HO_229002 := n1_; have BK228 := n2_; have HB := n3_; clear n0_ n1_ n2_ n3_; (try clear hb); (try clear hb2); (try clear hk); (try clear hi)))
     go_ret
     exact ⟨by first | rfl | (simp [errW_none, errW_some] <;> rfl) | (simp [*, errW_none, errW_some] <;> rfl), by repeat (first | (with_reducible first | exact HB.out | apply below_alloc | apply pw_below_drewN | apply below_drew1 | refine below_set ?_ GE228.out) | exact HB.out)⟩
    ·
     rw [if_neg c13] at H; cases H
   ·
    replace c12 := Bool.eq_false_iff.mpr c12
    subst c12
    have H1 : (samphirelaw17_SlotsHolds.l0 kj4 (wrap64 (1 + (wrap64 (Int.tmod a0 10)))) 0 ([] : List ByteArray) l1 (l1.length : Int) 0 t222 t223 t224 l2 0) = some r := by rw [if_neg (show ¬ (false = true) by decide)] at H; exact H
    clear H
    have H := H1
    clear H1
    have H' := Aside0.mk H
    clear H
    go_wp2_with (first | ((with_reducible refine gate_dst (N := 10) rfl ?_); (try (refine gate_guard (by rfl) ?_; dsimp only)); refine box_event ?hg (N := 10) ?hd (cs := #[.slice none 0 0, .int .i64 0]) (t := 33) ?hr ?_; (case hd => rfl); (case hg => rfl); (case hr => first | (go_simp; done) | (go_simp; rfl)); intro gb230 hg w16 hbox hb; have n0_ := Aside0.mk (Kd.V_below (Kd.V_elderB (by (with_reducible repeat (first | apply Kd.V_alloc | apply Kd.V_drewN | apply Kd.V_drew)); exact HO_2.out) gb230 (Nat.le_of_eq hg.symm)) hb); have n1_ := Aside0.mk (Kd.R_below (by (with_reducible repeat (first | apply Kd.R_alloc | apply Kd.R_drewN | apply Kd.R_drew)); exact HO_229002.out) hb); have n2_ := Aside0.mk (blk_below (g := gb228) (o := .cells #[.int .i64 t222, .int .u64 t223, .slice Ao9 t224.length co9] 27 (0, 0)) (by (with_reducible repeat (first | refine blk_drewN ?_ _ | refine blk_drew ?_ | refine blk_alloc ?_ _)); exact BK228.out) hb); have n3_ := Aside0.mk (below_step (by repeat (first | (with_reducible first | exact HB.out | apply below_alloc | apply pw_below_drewN | apply below_drew1 | refine below_set ?_ GE228.out) | exact HB.out)) hb); have n4_ := Aside0.mk (hbox); have n5_ := Aside0.mk ((by rw [hg]; exact (below_size (by repeat (first | (with_reducible first | exact HB.out | apply below_alloc | apply pw_below_drewN | apply below_drew1 | refine below_set ?_ GE228.out) | exact HB.out))) : w.heap.size ≤ gb230)); have n6_ := Aside0.mk ((by rw [hg]; exact (below_size (by repeat (first | (with_reducible first | exact HB.out | apply below_alloc | apply pw_below_drewN | apply below_drew1 | refine below_set ?_ GE228.out) | exact HB.out))) : w.heap.size ≤ gb230)); have n7_ := Aside0.mk ((by rw [hg]; exact Nat.ne_of_lt (blk_lt (g := gb228) (o := .cells #[.int .i64 t222, .int .u64 t223, .slice Ao9 t224.length co9] 27 (0, 0)) (by (with_reducible repeat (first | refine blk_drewN ?_ _ | refine blk_drew ?_ | refine blk_alloc ?_ _)); exact BK228.out)) : gb228 ≠ gb230)); have n8_ := Aside0.mk ((by rw [hg]; exact Nat.ne_of_gt (blk_lt (g := gb228) (o := .cells #[.int .i64 t222, .int .u64 t223, .slice Ao9 t224.length co9] 27 (0, 0)) (by (with_reducible repeat (first | refine blk_drewN ?_ _ | refine blk_drew ?_ | refine blk_alloc ?_ _)); exact BK228.out)) : gb230 ≠ gb228)); clear HO_2; clear HO_229002; clear BK228; clear HB; have HO_2 := n0_; have HO_229002 := n1_; have BK228 := n2_; have HB := n3_; have BK230 := n4_; have GW230 := n5_; have GE230 := n6_; have NB228_230 := n7_; have NB230_228 := n8_; clear n0_ n1_ n2_ n3_ n4_ n5_ n6_ n7_ n8_; clear hb hbox hg; have hnb17 := NB230_228.out; have hnc17 := NB228_230.out; have hcz18_0 : w16.cell? ⟨gb230, 0, none⟩ = some (.slice none 0 0) := (blk_cell BK230.out 0).trans rfl; have hcz18_1 : w16.cell? ⟨gb230, 1, none⟩ = some (.int .i64 0) := (blk_cell BK230.out 1).trans rfl; have hfz18_0 := blk_frozen BK230.out 0; have hfz18_1 := blk_frozen BK230.out 1))
    go_loopg [11, 12, 50] kj4 (fun kq v11 v12 v50 w' => ∃ (x11_2 : Int) (x12_2 : List ByteArray) (x50_2 : Int) (x229000_2 : Int) (x229001_2 : Int) (x229002_2 : List ByteArray) (x231000_2 : List Int) (x231001_2 : Int) (u229002 : Value) (u231000 : Value), v11 = .int .u64 x11_2 ∧ v50 = .int .i64 x50_2 ∧ Aside0 (samphirelaw17_SlotsHolds.l0 kq (wrap64 (1 + (wrap64 (Int.tmod a0 10)))) x11_2 x12_2 l1 (l1.length : Int) x50_2 x229000_2 x229001_2 x229002_2 x231000_2 x231001_2 = some r) ∧ Aside0 (kq ≤ kj4) ∧ Aside0 (Kd.R Kd.string 9 w' w.heap.size (fun k_ => (w.heap.size ≤ k_)) v12 x12_2) ∧ Aside0 (Kd.V Kd.string 9 w' w.heap.size (fun k_ => (P2_ k_ ∨ w.heap.size ≤ k_) ∧ some k_ ≠ (v12 : Value).ownBlock ∧ k_ ≠ gb228 ∧ k_ ≠ gb230) u229002 x229002_2) ∧ Aside0 (Kd.V (Kd.int .u64) 24 w' w.heap.size (fun k_ => (P2_ k_ ∨ w.heap.size ≤ k_) ∧ some k_ ≠ (v12 : Value).ownBlock ∧ k_ ≠ gb228 ∧ k_ ≠ gb230) u231000 x231000_2) ∧ Aside0 (w'.heap[gb228]? = some (.cells #[.int .i64 x229000_2, .int .u64 x229001_2, u229002] 27 (0, 0))) ∧ Aside0 (w'.heap[gb230]? = some (.cells #[u231000, .int .i64 x231001_2] 33 (0, 0))) ∧ Aside0 (Below w.heap.size w w'))
    case atStart => exact ⟨(0), (([] : List ByteArray)), (0), (t222), (t223), (t224), (l2), (0), (.slice Ao9 t224.length co9), (.slice A2 l2.length c2), (by first | rfl | (simp; done) | (simp [*]; done)), (by first | rfl | (simp; done) | (simp [*]; done)), H', ⟨Nat.le_refl _⟩, ⟨by first | exact Kd.R_nil _ _ _ _ _ | exact Kd.N_nil _ _ _ _ _ | exact Kd.V_nil _ _ _ _ _ | exact Kd.Q_nil _ _ _ _ _ | exact Kd.S_nil _ _ _ _ _⟩, ⟨Kd.V_mono (Kd.R_V (ok := fun k_ => w.heap.size ≤ k_ ∧ some k_ ≠ (Value.slice none 0 0).ownBlock ∧ k_ ≠ gb228 ∧ k_ ≠ gb230) (by (with_reducible repeat (first | apply Kd.R_alloc | apply Kd.R_drewN | apply Kd.R_drew)); exact Kd.R_mono (Kd.R_far (p := ⟨gb230, 1, none⟩) (Kd.R_far (p := ⟨gb230, 0, none⟩) (Kd.R_types (Kd.R_types (Kd.R_types HO_229002.out BK228.out (by decide)) BK230.out (by decide)) BK230.out (by decide)) (fun _ hk => hk.2) (.slice A2 l2.length c2)) (fun _ hk => hk.2) (.int .i64 0)) (fun _ hk => ⟨hk.1.1.1, ⟨(by simp [Value.ownBlock]), ⟨hk.1.1.2, hk.1.2⟩⟩⟩))) (fun k_ hk => by first | exact ⟨(.inr (hk.1)), hk.2⟩ | exact (.inr (hk)))⟩, ⟨by (with_reducible repeat (first | apply Kd.V_alloc | apply Kd.V_drewN | apply Kd.V_drew)); exact Kd.V_mono (Kd.V_far (p := ⟨gb230, 1, none⟩) (Kd.V_far (p := ⟨gb230, 0, none⟩) (Kd.V_mono HO_2.out (fun k_ hk => (⟨hk, hk.2⟩ : _ ∧ k_ ≠ gb230))) (fun _ hk => hk.2) (.slice A2 l2.length c2)) (fun _ hk => hk.2) (.int .i64 0)) (fun _ hk => ⟨hk.1.1.1, ⟨(by simp [Value.ownBlock]), ⟨hk.1.1.2.2, hk.1.2⟩⟩⟩)⟩, ⟨by (with_reducible repeat (first | refine blk_drewN ?_ _ | refine blk_drew ?_ | refine blk_alloc ?_ _)); refine blk_far ?_ NB228_230.out _; (with_reducible repeat (first | refine blk_drewN ?_ _ | refine blk_drew ?_ | refine blk_alloc ?_ _)); refine blk_far ?_ NB228_230.out _; (with_reducible repeat (first | refine blk_drewN ?_ _ | refine blk_drew ?_ | refine blk_alloc ?_ _)); exact BK228.out⟩, ⟨by (with_reducible repeat (first | refine blk_drewN ?_ _ | refine blk_drew ?_ | refine blk_alloc ?_ _)); refine blk_put (cs := #[.slice A2 l2.length c2, .int .i64 0]) ?_ 1 _ rfl; (with_reducible repeat (first | refine blk_drewN ?_ _ | refine blk_drew ?_ | refine blk_alloc ?_ _)); refine blk_put (cs := #[.slice none 0 0, .int .i64 0]) ?_ 0 _ rfl; (with_reducible repeat (first | refine blk_drewN ?_ _ | refine blk_drew ?_ | refine blk_alloc ?_ _)); exact BK230.out⟩, ⟨by repeat (first | (with_reducible first | exact HB.out | apply below_alloc | apply pw_below_drewN | apply below_drew1 | refine below_set ?_ GE228.out | refine below_set ?_ GE230.out) | exact HB.out)⟩⟩
    case round =>
     clear H'
     try clear c1
     try clear c2
     try clear p2
     try clear c3
     try clear p6
     try clear c8
     try clear c10
     try clear c10b0
     try clear c10b1
     try clear c11
     try clear c11b0
     try clear c11b1
     try clear c12
     try clear c13
     try clear c13b0
     try clear c13b1
     try clear c17
     try clear hcz18_0
     try clear hcz18_1
     try clear hcz8_0
     try clear hcz8_1
     try clear hcz8_2
     try clear hfz18_0
     try clear hfz18_1
     try clear hfz8_0
     try clear hfz8_1
     try clear hfz8_2
     try clear p2
     try clear p6
     obtain ⟨x11_2, x12_2, x50_2, x229000_2, x229001_2, x229002_2, x231000_2, x231001_2, u229002, u231000, rfl, rfl, HA, HK2, HO_12, HO_229002, HO_231000, BK228, BK230, HB⟩ := hrel
     cases gk with
     | zero => exact absurd HA.out (by simp [samphirelaw17_SlotsHolds.l0])
     | succ k2 =>
      have H := HA.out
      clear HA
      simp only [samphirelaw17_SlotsHolds.l0] at H
      by_cases c19 : x50_2 < (l1.length : Int)
      ·
       rw [if_pos c19] at H
       have c19b0 : decide (x50_2 < (l1.length : Int)) = true := decide_eq_true c19
       clear c19
       by_cases c20 : 0 ≤ x50_2
       ·
        rw [if_pos c20] at H
        have c20b0 : decide (0 ≤ x50_2) = true := decide_eq_true c20
        clear c20
        by_cases c21 : x50_2 < (l1.length : Int)
        ·
         rw [if_pos c21] at H
         have c21b0 : decide (x50_2 < (l1.length : Int)) = true := decide_eq_true c21
         clear c21
         have HC22 := Aside0.mk H
         clear H
         have p232 : 0 ≤ (x50_2 : Int) := of_decide_eq_true (by first | (with_reducible assumption) | assumption)
         have q232 : x50_2 < (l1.length : Int) := of_decide_eq_true (by first | (with_reducible assumption) | assumption)
         obtain ⟨ad232, e232, hx232_0, hx232_1⟩ := at_T35 HR1.out x50_2 p232 q232
         cases e232
         replace hx232_0 := (HB.out.cell (World.block_lt_of_cell? w _ hx232_0)).trans hx232_0
         replace hx232_1 := (HB.out.cell (World.block_lt_of_cell? w _ hx232_1)).trans hx232_1
         replace p232 := eq_true p232
         replace q232 := eq_true q232
         go_upto_region 11 with (first | ((with_reducible refine gate_dst (N := 14) rfl ?_); (try (refine gate_guard (by rfl) ?_; dsimp only)); refine box_event ?hg (N := 14) ?hd (cs := #[.string (⟨#[]⟩ : ByteArray), .int .u64 0]) (t := 35) ?hr ?_; (case hd => rfl); (case hg => rfl); (case hr => first | (go_simp; done) | (go_simp; rfl)); intro gb233 hg w23 hbox hb; have n0_ := Aside0.mk (Kd.R_below (by (with_reducible repeat (first | apply Kd.R_alloc | apply Kd.R_drewN | apply Kd.R_drew)); exact HO_12.out) hb); have n1_ := Aside0.mk (Kd.V_below (Kd.V_elderB (by (with_reducible repeat (first | apply Kd.V_alloc | apply Kd.V_drewN | apply Kd.V_drew)); exact HO_229002.out) gb233 (Nat.le_of_eq hg.symm)) hb); have n2_ := Aside0.mk (Kd.V_below (Kd.V_elderB (by (with_reducible repeat (first | apply Kd.V_alloc | apply Kd.V_drewN | apply Kd.V_drew)); exact HO_231000.out) gb233 (Nat.le_of_eq hg.symm)) hb); have n3_ := Aside0.mk (blk_below (g := gb228) (o := .cells #[.int .i64 x229000_2, .int .u64 x229001_2, u229002] 27 (0, 0)) (by (with_reducible repeat (first | refine blk_drewN ?_ _ | refine blk_drew ?_ | refine blk_alloc ?_ _)); exact BK228.out) hb); have n4_ := Aside0.mk (blk_below (g := gb230) (o := .cells #[u231000, .int .i64 x231001_2] 33 (0, 0)) (by (with_reducible repeat (first | refine blk_drewN ?_ _ | refine blk_drew ?_ | refine blk_alloc ?_ _)); exact BK230.out) hb); have n5_ := Aside0.mk (below_step (by repeat (first | (with_reducible first | exact HB.out | apply below_alloc | apply pw_below_drewN | apply below_drew1 | refine below_set ?_ GE228.out | refine below_set ?_ GE230.out) | exact HB.out)) hb); have n6_ := Aside0.mk (hbox); have n7_ := Aside0.mk ((by rw [hg]; exact (below_size (by repeat (first | (with_reducible first | exact HB.out | apply below_alloc | apply pw_below_drewN | apply below_drew1 | refine below_set ?_ GE228.out | refine below_set ?_ GE230.out) | exact HB.out))) : w.heap.size ≤ gb233)); have n8_ := Aside0.mk ((by rw [hg]; exact (below_size (by repeat (first | (with_reducible first | exact HB.out | apply below_alloc | apply pw_below_drewN | apply below_drew1 | refine below_set ?_ GE228.out | refine below_set ?_ GE230.out) | exact HB.out))) : w.heap.size ≤ gb233)); have n9_ := Aside0.mk ((by rw [hg]; exact Nat.ne_of_lt (blk_lt (g := gb228) (o := .cells #[.int .i64 x229000_2, .int .u64 x229001_2, u229002] 27 (0, 0)) (by (with_reducible repeat (first | refine blk_drewN ?_ _ | refine blk_drew ?_ | refine blk_alloc ?_ _)); exact BK228.out)) : gb228 ≠ gb233)); have n10_ := Aside0.mk ((by rw [hg]; exact Nat.ne_of_gt (blk_lt (g := gb228) (o := .cells #[.int .i64 x229000_2, .int .u64 x229001_2, u229002] 27 (0, 0)) (by (with_reducible repeat (first | refine blk_drewN ?_ _ | refine blk_drew ?_ | refine blk_alloc ?_ _)); exact BK228.out)) : gb233 ≠ gb228)); have n11_ := Aside0.mk ((by rw [hg]; exact Nat.ne_of_lt (blk_lt (g := gb230) (o := .cells #[u231000, .int .i64 x231001_2] 33 (0, 0)) (by (with_reducible repeat (first | refine blk_drewN ?_ _ | refine blk_drew ?_ | refine blk_alloc ?_ _)); exact BK230.out)) : gb230 ≠ gb233)); have n12_ := Aside0.mk ((by rw [hg]; exact Nat.ne_of_gt (blk_lt (g := gb230) (o := .cells #[u231000, .int .i64 x231001_2] 33 (0, 0)) (by (with_reducible repeat (first | refine blk_drewN ?_ _ | refine blk_drew ?_ | refine blk_alloc ?_ _)); exact BK230.out)) : gb233 ≠ gb230)); clear HO_12; clear HO_229002; clear HO_231000; clear BK228; clear BK230; clear HB; have HO_12 := n0_; have HO_229002 := n1_; have HO_231000 := n2_; have BK228 := n3_; have BK230 := n4_; have HB := n5_; have BK233 := n6_; have GW233 := n7_; have GE233 := n8_; have NB228_233 := n9_; have NB233_228 := n10_; have NB230_233 := n11_; have NB233_230 := n12_; clear n0_ n1_ n2_ n3_ n4_ n5_ n6_ n7_ n8_ n9_ n10_ n11_ n12_; clear hb hbox hg; have hnb24 := NB233_228.out; have hnc24 := NB228_233.out; have hnb25 := NB233_230.out; have hnc25 := NB230_233.out; have hcz26_0 : w23.cell? ⟨gb233, 0, none⟩ = some (.string (⟨#[]⟩ : ByteArray)) := (blk_cell BK233.out 0).trans rfl; have hcz26_1 : w23.cell? ⟨gb233, 1, none⟩ = some (.int .u64 0) := (blk_cell BK233.out 1).trans rfl; have hfz26_0 := blk_frozen BK233.out 0; have hfz26_1 := blk_frozen BK233.out 1))
         (try simp only [Act.put, List.setIfInBounds_toArray, List.set_cons_zero, List.set_cons_succ])
         go_cut [67] (fun v67 wc => ∃ (kq : Nat) (x67_21 : Bool), v67 = .bool x67_21 ∧ Aside0 (samphirelaw17_SlotsHolds.j2 kq (wrap64 (1 + (wrap64 (Int.tmod a0 10)))) x11_2 x12_2 l1 (l1.length : Int) x50_2 x67_21 x229000_2 x229001_2 x229002_2 x231000_2 x231001_2 ((rd_T35 l1 x50_2).f0) ((rd_T35 l1 x50_2).f1) = some r) ∧ Aside0 (kq ≤ k2) ∧ Aside0 (Kd.R Kd.string 9 wc w.heap.size (fun k_ => (w.heap.size ≤ k_)) u12 x12_2) ∧ Aside0 (Kd.V Kd.string 9 wc w.heap.size (fun k_ => (P2_ k_ ∨ w.heap.size ≤ k_) ∧ some k_ ≠ (u12 : Value).ownBlock ∧ k_ ≠ gb228 ∧ k_ ≠ gb230 ∧ k_ ≠ gb233) u229002 x229002_2) ∧ Aside0 (Kd.V (Kd.int .u64) 24 wc w.heap.size (fun k_ => (P2_ k_ ∨ w.heap.size ≤ k_) ∧ some k_ ≠ (u12 : Value).ownBlock ∧ k_ ≠ gb228 ∧ k_ ≠ gb230 ∧ k_ ≠ gb233) u231000 x231000_2) ∧ Aside0 (wc.heap[gb228]? = some (.cells #[.int .i64 x229000_2, .int .u64 x229001_2, u229002] 27 (0, 0))) ∧ Aside0 (wc.heap[gb230]? = some (.cells #[u231000, .int .i64 x231001_2] 33 (0, 0))) ∧ Aside0 (wc.heap[gb233]? = some (.cells #[.string ((rd_T35 l1 x50_2).f0), .int .u64 ((rd_T35 l1 x50_2).f1)] 35 (0, 0))) ∧ Aside0 (Below w.heap.size w wc))
         case first =>
          have H := HC22.out
          clear HC22
          by_cases c27 : (((rd_T35 l1 x50_2).f0).size : Int) > 64
          ·
           rw [if_pos c27] at H
           have c27b0 : decide (64 < (((rd_T35 l1 x50_2).f0).size : Int)) = true := decide_eq_true c27
           have c27b1 : decide (64 < ((rd_T35 l1 x50_2).f0).size) = true := decide_eq_true (by omega)
           clear c27
           (first | rw [c27b0] | (simp only [i64_w, i32_w]; rw [c27b0]) | skip)
           have H' := Aside0.mk H
           clear H
           have hnb28 := NB233_228.out
           have hnc28 := NB228_233.out
           have hnb29 := NB233_230.out
           have hnc29 := NB230_233.out
           have hcz30_0 : w23.cell? ⟨gb233, 0, none⟩ = some (.string (⟨#[]⟩ : ByteArray)) := (blk_cell BK233.out 0).trans rfl
           have hcz30_1 : w23.cell? ⟨gb233, 1, none⟩ = some (.int .u64 0) := (blk_cell BK233.out 1).trans rfl
           have hfz30_0 := blk_frozen BK233.out 0
           have hfz30_1 := blk_frozen BK233.out 1
           go_wp2
           go_meet
           case rel => exact ⟨_, (true), (by first | rfl | (simp; done) | (simp [*]; done)), H', ⟨by have := HJ4.out; have := HK2.out; first | omega | exact Nat.le_refl _⟩, ⟨by (with_reducible repeat (first | apply Kd.R_alloc | apply Kd.R_drewN | apply Kd.R_drew)); exact Kd.R_mono (Kd.R_far (p := ⟨gb233, 1, none⟩) (Kd.R_far (p := ⟨gb233, 0, none⟩) (Kd.R_types HO_12.out BK233.out (by decide)) (fun _ hk => hk.2) (.string ((rd_T35 l1 x50_2).f0))) (fun _ hk => hk.2) (.int .u64 ((rd_T35 l1 x50_2).f1))) (fun _ hk => hk.1)⟩, ⟨by (with_reducible repeat (first | apply Kd.V_alloc | apply Kd.V_drewN | apply Kd.V_drew)); exact Kd.V_mono (Kd.V_far (p := ⟨gb233, 1, none⟩) (Kd.V_far (p := ⟨gb233, 0, none⟩) (Kd.V_mono HO_229002.out (fun k_ hk => (⟨hk, hk.2⟩ : _ ∧ k_ ≠ gb233))) (fun _ hk => hk.2) (.string ((rd_T35 l1 x50_2).f0))) (fun _ hk => hk.2) (.int .u64 ((rd_T35 l1 x50_2).f1))) (fun _ hk => ⟨hk.1.1.1, ⟨hk.1.1.2.1, ⟨hk.1.1.2.2.1, ⟨hk.1.1.2.2.2, hk.1.2⟩⟩⟩⟩)⟩, ⟨by (with_reducible repeat (first | apply Kd.V_alloc | apply Kd.V_drewN | apply Kd.V_drew)); exact Kd.V_mono (Kd.V_far (p := ⟨gb233, 1, none⟩) (Kd.V_far (p := ⟨gb233, 0, none⟩) (Kd.V_mono HO_231000.out (fun k_ hk => (⟨hk, hk.2⟩ : _ ∧ k_ ≠ gb233))) (fun _ hk => hk.2) (.string ((rd_T35 l1 x50_2).f0))) (fun _ hk => hk.2) (.int .u64 ((rd_T35 l1 x50_2).f1))) (fun _ hk => ⟨hk.1.1.1, ⟨hk.1.1.2.1, ⟨hk.1.1.2.2.1, ⟨hk.1.1.2.2.2, hk.1.2⟩⟩⟩⟩)⟩, ⟨by (with_reducible repeat (first | refine blk_drewN ?_ _ | refine blk_drew ?_ | refine blk_alloc ?_ _)); refine blk_far ?_ NB228_233.out _; (with_reducible repeat (first | refine blk_drewN ?_ _ | refine blk_drew ?_ | refine blk_alloc ?_ _)); refine blk_far ?_ NB228_233.out _; (with_reducible repeat (first | refine blk_drewN ?_ _ | refine blk_drew ?_ | refine blk_alloc ?_ _)); exact BK228.out⟩, ⟨by (with_reducible repeat (first | refine blk_drewN ?_ _ | refine blk_drew ?_ | refine blk_alloc ?_ _)); refine blk_far ?_ NB230_233.out _; (with_reducible repeat (first | refine blk_drewN ?_ _ | refine blk_drew ?_ | refine blk_alloc ?_ _)); refine blk_far ?_ NB230_233.out _; (with_reducible repeat (first | refine blk_drewN ?_ _ | refine blk_drew ?_ | refine blk_alloc ?_ _)); exact BK230.out⟩, ⟨by (with_reducible repeat (first | refine blk_drewN ?_ _ | refine blk_drew ?_ | refine blk_alloc ?_ _)); refine blk_put (cs := #[.string ((rd_T35 l1 x50_2).f0), .int .u64 0]) ?_ 1 _ rfl; (with_reducible repeat (first | refine blk_drewN ?_ _ | refine blk_drew ?_ | refine blk_alloc ?_ _)); refine blk_put (cs := #[.string (⟨#[]⟩ : ByteArray), .int .u64 0]) ?_ 0 _ rfl; (with_reducible repeat (first | refine blk_drewN ?_ _ | refine blk_drew ?_ | refine blk_alloc ?_ _)); exact BK233.out⟩, ⟨by repeat (first | (with_reducible first | exact HB.out | apply below_alloc | apply pw_below_drewN | apply below_drew1 | refine below_set ?_ GE228.out | refine below_set ?_ GE230.out | refine below_set ?_ GE233.out) | exact HB.out)⟩⟩
          ·
           rw [if_neg c27] at H
           have c27b0 : decide (64 < (((rd_T35 l1 x50_2).f0).size : Int)) = false := decide_eq_false c27
           have c27b1 : decide (64 < ((rd_T35 l1 x50_2).f0).size) = false := decide_eq_false (by omega)
           clear c27
           (first | rw [c27b0] | (simp only [i64_w, i32_w]; rw [c27b0]) | skip)
           by_cases c31 : ((rd_T35 l1 x50_2).f1) = 0
           ·
            rw [if_pos c31] at H
            have c31b0 : (((rd_T35 l1 x50_2).f1) == 0) = true := beq_iff_eq.mpr c31
            have c31b1 : (((rd_T35 l1 x50_2).f1) != 0) = false := bne_eq_false_iff_eq.mpr c31
            clear c31
            have H' := Aside0.mk H
            clear H
            have hnb32 := NB233_228.out
            have hnc32 := NB228_233.out
            have hnb33 := NB233_230.out
            have hnc33 := NB230_233.out
            have hcz34_0 : w23.cell? ⟨gb233, 0, none⟩ = some (.string (⟨#[]⟩ : ByteArray)) := (blk_cell BK233.out 0).trans rfl
            have hcz34_1 : w23.cell? ⟨gb233, 1, none⟩ = some (.int .u64 0) := (blk_cell BK233.out 1).trans rfl
            have hfz34_0 := blk_frozen BK233.out 0
            have hfz34_1 := blk_frozen BK233.out 1
            go_wp2
            go_meet
            case rel => exact ⟨_, (true), (by first | rfl | (simp; done) | (simp [*]; done)), H', ⟨by have := HJ4.out; have := HK2.out; first | omega | exact Nat.le_refl _⟩, ⟨by (with_reducible repeat (first | apply Kd.R_alloc | apply Kd.R_drewN | apply Kd.R_drew)); exact Kd.R_mono (Kd.R_far (p := ⟨gb233, 1, none⟩) (Kd.R_far (p := ⟨gb233, 0, none⟩) (Kd.R_types HO_12.out BK233.out (by decide)) (fun _ hk => hk.2) (.string ((rd_T35 l1 x50_2).f0))) (fun _ hk => hk.2) (.int .u64 ((rd_T35 l1 x50_2).f1))) (fun _ hk => hk.1)⟩, ⟨by (with_reducible repeat (first | apply Kd.V_alloc | apply Kd.V_drewN | apply Kd.V_drew)); exact Kd.V_mono (Kd.V_far (p := ⟨gb233, 1, none⟩) (Kd.V_far (p := ⟨gb233, 0, none⟩) (Kd.V_mono HO_229002.out (fun k_ hk => (⟨hk, hk.2⟩ : _ ∧ k_ ≠ gb233))) (fun _ hk => hk.2) (.string ((rd_T35 l1 x50_2).f0))) (fun _ hk => hk.2) (.int .u64 ((rd_T35 l1 x50_2).f1))) (fun _ hk => ⟨hk.1.1.1, ⟨hk.1.1.2.1, ⟨hk.1.1.2.2.1, ⟨hk.1.1.2.2.2, hk.1.2⟩⟩⟩⟩)⟩, ⟨by (with_reducible repeat (first | apply Kd.V_alloc | apply Kd.V_drewN | apply Kd.V_drew)); exact Kd.V_mono (Kd.V_far (p := ⟨gb233, 1, none⟩) (Kd.V_far (p := ⟨gb233, 0, none⟩) (Kd.V_mono HO_231000.out (fun k_ hk => (⟨hk, hk.2⟩ : _ ∧ k_ ≠ gb233))) (fun _ hk => hk.2) (.string ((rd_T35 l1 x50_2).f0))) (fun _ hk => hk.2) (.int .u64 ((rd_T35 l1 x50_2).f1))) (fun _ hk => ⟨hk.1.1.1, ⟨hk.1.1.2.1, ⟨hk.1.1.2.2.1, ⟨hk.1.1.2.2.2, hk.1.2⟩⟩⟩⟩)⟩, ⟨by (with_reducible repeat (first | refine blk_drewN ?_ _ | refine blk_drew ?_ | refine blk_alloc ?_ _)); refine blk_far ?_ NB228_233.out _; (with_reducible repeat (first | refine blk_drewN ?_ _ | refine blk_drew ?_ | refine blk_alloc ?_ _)); refine blk_far ?_ NB228_233.out _; (with_reducible repeat (first | refine blk_drewN ?_ _ | refine blk_drew ?_ | refine blk_alloc ?_ _)); exact BK228.out⟩, ⟨by (with_reducible repeat (first | refine blk_drewN ?_ _ | refine blk_drew ?_ | refine blk_alloc ?_ _)); refine blk_far ?_ NB230_233.out _; (with_reducible repeat (first | refine blk_drewN ?_ _ | refine blk_drew ?_ | refine blk_alloc ?_ _)); refine blk_far ?_ NB230_233.out _; (with_reducible repeat (first | refine blk_drewN ?_ _ | refine blk_drew ?_ | refine blk_alloc ?_ _)); exact BK230.out⟩, ⟨by (with_reducible repeat (first | refine blk_drewN ?_ _ | refine blk_drew ?_ | refine blk_alloc ?_ _)); refine blk_put (cs := #[.string ((rd_T35 l1 x50_2).f0), .int .u64 0]) ?_ 1 _ rfl; (with_reducible repeat (first | refine blk_drewN ?_ _ | refine blk_drew ?_ | refine blk_alloc ?_ _)); refine blk_put (cs := #[.string (⟨#[]⟩ : ByteArray), .int .u64 0]) ?_ 0 _ rfl; (with_reducible repeat (first | refine blk_drewN ?_ _ | refine blk_drew ?_ | refine blk_alloc ?_ _)); exact BK233.out⟩, ⟨by repeat (first | (with_reducible first | exact HB.out | apply below_alloc | apply pw_below_drewN | apply below_drew1 | refine below_set ?_ GE228.out | refine below_set ?_ GE230.out | refine below_set ?_ GE233.out) | exact HB.out)⟩⟩
           ·
            rw [if_neg c31] at H
            have c31b0 : (((rd_T35 l1 x50_2).f1) == 0) = false := beq_eq_false_iff_ne.mpr c31
            have c31b1 : (((rd_T35 l1 x50_2).f1) != 0) = true := bne_iff_ne.mpr c31
            have H' := Aside0.mk H
            clear H
            have hnb35 := NB233_228.out
            have hnc35 := NB228_233.out
            have hnb36 := NB233_230.out
            have hnc36 := NB230_233.out
            have hcz37_0 : w23.cell? ⟨gb233, 0, none⟩ = some (.string (⟨#[]⟩ : ByteArray)) := (blk_cell BK233.out 0).trans rfl
            have hcz37_1 : w23.cell? ⟨gb233, 1, none⟩ = some (.int .u64 0) := (blk_cell BK233.out 1).trans rfl
            have hfz37_0 := blk_frozen BK233.out 0
            have hfz37_1 := blk_frozen BK233.out 1
            go_wp2
            go_meet
            case rel => exact ⟨_, (decide (((rd_T35 l1 x50_2).f1) > 1125899906842624)), (by first | rfl | (simp; done) | (simp [*]; done)), H', ⟨by have := HJ4.out; have := HK2.out; first | omega | exact Nat.le_refl _⟩, ⟨by (with_reducible repeat (first | apply Kd.R_alloc | apply Kd.R_drewN | apply Kd.R_drew)); exact Kd.R_mono (Kd.R_far (p := ⟨gb233, 1, none⟩) (Kd.R_far (p := ⟨gb233, 0, none⟩) (Kd.R_types HO_12.out BK233.out (by decide)) (fun _ hk => hk.2) (.string ((rd_T35 l1 x50_2).f0))) (fun _ hk => hk.2) (.int .u64 ((rd_T35 l1 x50_2).f1))) (fun _ hk => hk.1)⟩, ⟨by (with_reducible repeat (first | apply Kd.V_alloc | apply Kd.V_drewN | apply Kd.V_drew)); exact Kd.V_mono (Kd.V_far (p := ⟨gb233, 1, none⟩) (Kd.V_far (p := ⟨gb233, 0, none⟩) (Kd.V_mono HO_229002.out (fun k_ hk => (⟨hk, hk.2⟩ : _ ∧ k_ ≠ gb233))) (fun _ hk => hk.2) (.string ((rd_T35 l1 x50_2).f0))) (fun _ hk => hk.2) (.int .u64 ((rd_T35 l1 x50_2).f1))) (fun _ hk => ⟨hk.1.1.1, ⟨hk.1.1.2.1, ⟨hk.1.1.2.2.1, ⟨hk.1.1.2.2.2, hk.1.2⟩⟩⟩⟩)⟩, ⟨by (with_reducible repeat (first | apply Kd.V_alloc | apply Kd.V_drewN | apply Kd.V_drew)); exact Kd.V_mono (Kd.V_far (p := ⟨gb233, 1, none⟩) (Kd.V_far (p := ⟨gb233, 0, none⟩) (Kd.V_mono HO_231000.out (fun k_ hk => (⟨hk, hk.2⟩ : _ ∧ k_ ≠ gb233))) (fun _ hk => hk.2) (.string ((rd_T35 l1 x50_2).f0))) (fun _ hk => hk.2) (.int .u64 ((rd_T35 l1 x50_2).f1))) (fun _ hk => ⟨hk.1.1.1, ⟨hk.1.1.2.1, ⟨hk.1.1.2.2.1, ⟨hk.1.1.2.2.2, hk.1.2⟩⟩⟩⟩)⟩, ⟨by (with_reducible repeat (first | refine blk_drewN ?_ _ | refine blk_drew ?_ | refine blk_alloc ?_ _)); refine blk_far ?_ NB228_233.out _; (with_reducible repeat (first | refine blk_drewN ?_ _ | refine blk_drew ?_ | refine blk_alloc ?_ _)); refine blk_far ?_ NB228_233.out _; (with_reducible repeat (first | refine blk_drewN ?_ _ | refine blk_drew ?_ | refine blk_alloc ?_ _)); exact BK228.out⟩, ⟨by (with_reducible repeat (first | refine blk_drewN ?_ _ | refine blk_drew ?_ | refine blk_alloc ?_ _)); refine blk_far ?_ NB230_233.out _; (with_reducible repeat (first | refine blk_drewN ?_ _ | refine blk_drew ?_ | refine blk_alloc ?_ _)); refine blk_far ?_ NB230_233.out _; (with_reducible repeat (first | refine blk_drewN ?_ _ | refine blk_drew ?_ | refine blk_alloc ?_ _)); exact BK230.out⟩, ⟨by (with_reducible repeat (first | refine blk_drewN ?_ _ | refine blk_drew ?_ | refine blk_alloc ?_ _)); refine blk_put (cs := #[.string ((rd_T35 l1 x50_2).f0), .int .u64 0]) ?_ 1 _ rfl; (with_reducible repeat (first | refine blk_drewN ?_ _ | refine blk_drew ?_ | refine blk_alloc ?_ _)); refine blk_put (cs := #[.string (⟨#[]⟩ : ByteArray), .int .u64 0]) ?_ 0 _ rfl; (with_reducible repeat (first | refine blk_drewN ?_ _ | refine blk_drew ?_ | refine blk_alloc ?_ _)); exact BK233.out⟩, ⟨by repeat (first | (with_reducible first | exact HB.out | apply below_alloc | apply pw_below_drewN | apply below_drew1 | refine below_set ?_ GE228.out | refine below_set ?_ GE230.out | refine below_set ?_ GE233.out) | exact HB.out)⟩⟩
         case rest =>
          clear HC22
          try clear c1
          try clear c2
          try clear p2
          try clear q2
          try clear hx2
          try clear c3
          try clear p6
          try clear c8
          try clear c10
          try clear c10b0
          try clear c10b1
          try clear c11
          try clear c11b0
          try clear c11b1
          try clear c12
          try clear c13
          try clear c13b0
          try clear c13b1
          try clear c17
          try clear c19
          try clear c19b0
          try clear c20
          try clear c20b0
          try clear c21
          try clear c21b0
          try clear p23
          try clear q23
          try clear hx23
          try clear c24
          try clear c25
          try clear c27
          try clear c27b0
          try clear c27b1
          try clear c28
          try clear c29
          try clear c31
          try clear c31b0
          try clear c31b1
          try clear c32
          try clear c33
          try clear c35
          try clear c36
          try clear hcz18_0
          try clear hcz18_1
          try clear hcz26_0
          try clear hcz26_1
          try clear hcz30_0
          try clear hcz30_1
          try clear hcz34_0
          try clear hcz34_1
          try clear hcz37_0
          try clear hcz37_1
          try clear hcz8_0
          try clear hcz8_1
          try clear hcz8_2
          try clear hfz18_0
          try clear hfz18_1
          try clear hfz26_0
          try clear hfz26_1
          try clear hfz30_0
          try clear hfz30_1
          try clear hfz34_0
          try clear hfz34_1
          try clear hfz37_0
          try clear hfz37_1
          try clear hfz8_0
          try clear hfz8_1
          try clear hfz8_2
          try clear hx232_0
          try clear hx232_1
          try clear p2
          try clear p232
          try clear p6
          try clear q232
          obtain ⟨kq, x67_21, rfl, HA, HJ21, HO_12, HO_229002, HO_231000, BK228, BK230, BK233, HB⟩ := hcut
          cases kq with
          | zero => exact absurd HA.out (by simp [samphirelaw17_SlotsHolds.j2])
          | succ kj21 =>
           have H := HA.out
           clear HA
           simp only [samphirelaw17_SlotsHolds.j2] at H
           by_cases c38 : x67_21 = true
           ·
            subst c38
            have H1 : ((samphirelaw17_awake.f kj21).bind fun t234 => (some t234)) = some r := by rw [if_pos rfl] at H; exact H
            clear H
            have H := H1
            clear H1
            replace H := Option.bind_eq_some_iff.mp H
            obtain ⟨t234, A390, H⟩ := H
            replace H : (some t234) = some r := H
            have A39 := Aside0.mk A390
            clear A390
            obtain rfl := Option.some.inj H
            go_wp2_with (first | ((with_reducible refine gate_callee (f := 9) rfl ?_); refine goesL_ (some 68) rfl rfl Try.func9 (by kernel_rfl) rfl #[] rfl (by (try simp only [List.map_toArray, List.map_cons, List.map_nil]); first | done | rfl | (simp only [List.length_drop, List.length_take]; rfl)) ?_; (with_reducible refine (samphirelaw17_awake.calls kj21  t234 _ A39.out).mono ?_); rintro e w40 ⟨rfl, hb⟩; refine ⟨_, rfl, ?_⟩; have n0_ := Aside0.mk (Kd.R_below (by (with_reducible repeat (first | apply Kd.R_alloc | apply Kd.R_drewN | apply Kd.R_drew)); exact HO_12.out) hb); have n1_ := Aside0.mk (Kd.V_below (by (with_reducible repeat (first | apply Kd.V_alloc | apply Kd.V_drewN | apply Kd.V_drew)); exact HO_229002.out) hb); have n2_ := Aside0.mk (Kd.V_below (by (with_reducible repeat (first | apply Kd.V_alloc | apply Kd.V_drewN | apply Kd.V_drew)); exact HO_231000.out) hb); have n3_ := Aside0.mk (blk_below (g := gb228) (o := .cells #[.int .i64 x229000_2, .int .u64 x229001_2, u229002] 27 (0, 0)) (by (with_reducible repeat (first | refine blk_drewN ?_ _ | refine blk_drew ?_ | refine blk_alloc ?_ _)); exact BK228.out) hb); have n4_ := Aside0.mk (blk_below (g := gb230) (o := .cells #[u231000, .int .i64 x231001_2] 33 (0, 0)) (by (with_reducible repeat (first | refine blk_drewN ?_ _ | refine blk_drew ?_ | refine blk_alloc ?_ _)); exact BK230.out) hb); have n5_ := Aside0.mk (blk_below (g := gb233) (o := .cells #[.string ((rd_T35 l1 x50_2).f0), .int .u64 ((rd_T35 l1 x50_2).f1)] 35 (0, 0)) (by (with_reducible repeat (first | refine blk_drewN ?_ _ | refine blk_drew ?_ | refine blk_alloc ?_ _)); exact BK233.out) hb); have n6_ := Aside0.mk (below_step (by repeat (first | (with_reducible first | exact HB.out | apply below_alloc | apply pw_below_drewN | apply below_drew1 | refine below_set ?_ GE228.out | refine below_set ?_ GE230.out | refine below_set ?_ GE233.out) | exact HB.out)) hb); clear HO_12; clear HO_229002; clear HO_231000; clear BK228; clear BK230; clear BK233; clear HB; have HO_12 := n0_; have HO_229002 := n1_; have HO_231000 := n2_; have BK228 := n3_; have BK230 := n4_; have BK233 := n5_; have HB := n6_; clear n0_ n1_ n2_ n3_ n4_ n5_ n6_; (try clear hb); (try clear hb2); (try clear hk); (try clear hi)))
            go_ret
            exact ⟨by first | rfl | (simp [errW_none, errW_some] <;> rfl) | (simp [*, errW_none, errW_some] <;> rfl), by repeat (first | (with_reducible first | exact HB.out | apply below_alloc | apply pw_below_drewN | apply below_drew1 | refine below_set ?_ GE228.out | refine below_set ?_ GE230.out | refine below_set ?_ GE233.out) | exact HB.out)⟩
           ·
            replace c38 := Bool.eq_false_iff.mpr c38
            subst c38
            have H1 : ((slots_Add.f kj21 x229000_2 x229001_2 x229002_2 ((rd_T35 l1 x50_2).f0) ((rd_T35 l1 x50_2).f1) x231000_2 x231001_2).bind fun bt235 => (if bt235.2.2.2.2.2 = 0 then (if x12_2.length < 8796093022208 then ((some (x12_2 ++ [((rd_T35 l1 x50_2).f0)] : List ByteArray)).bind fun y259 => (if bt235.2.1 = (IntKind.u64.wrap (x11_2 + ((rd_T35 l1 x50_2).f1))) then (if (bt235.2.2.1.length : Int) = (wrap64 (1 + (wrap64 (Int.tmod a0 10)))) then ((slots_Right.f bt235.1 bt235.2.1 bt235.2.2.1).bind fun t262 => (samphirelaw17_SlotsHolds.j3 kj21 (wrap64 (1 + (wrap64 (Int.tmod a0 10)))) (IntKind.u64.wrap (x11_2 + ((rd_T35 l1 x50_2).f1))) y259 l1 (l1.length : Int) x50_2 (!t262) bt235.1 bt235.2.1 bt235.2.2.1 bt235.2.2.2.1 bt235.2.2.2.2.1)) else (none)) else (none))) else (none)) else (if bt235.2.2.2.2.2 = 8 then ((samphirelaw17_ref.f bt235.1 bt235.2.1 bt235.2.2.1).bind fun bt247 => ((samphirelaw17_ref.f x229000_2 x229001_2 x229002_2).bind fun bt252 => ((samphireref17_Same.f kj21 bt247.1 bt247.2.1 bt247.2.2 bt252.1 bt252.2.1 bt252.2.2).bind fun t257 => (if t257 = true then (if bt235.2.2.2.2.1 = x231001_2 then ((samphirelaw17_awake.f kj21).bind fun t258 => (some t258)) else (none)) else (none))))) else (none)))) = some r := by rw [if_neg (show ¬ (false = true) by decide)] at H; exact H
            clear H
            have H := H1
            clear H1
            replace H := Option.bind_eq_some_iff.mp H
            obtain ⟨⟨t235, t236, t237, t240, t243, t244⟩, A410, H⟩ := H
            replace H : (if t244 = 0 then (if x12_2.length < 8796093022208 then ((some (x12_2 ++ [((rd_T35 l1 x50_2).f0)] : List ByteArray)).bind fun y259 => (if t236 = (IntKind.u64.wrap (x11_2 + ((rd_T35 l1 x50_2).f1))) then (if (t237.length : Int) = (wrap64 (1 + (wrap64 (Int.tmod a0 10)))) then ((slots_Right.f t235 t236 t237).bind fun t262 => (samphirelaw17_SlotsHolds.j3 kj21 (wrap64 (1 + (wrap64 (Int.tmod a0 10)))) (IntKind.u64.wrap (x11_2 + ((rd_T35 l1 x50_2).f1))) y259 l1 (l1.length : Int) x50_2 (!t262) t235 t236 t237 t240 t243)) else (none)) else (none))) else (none)) else (if t244 = 8 then ((samphirelaw17_ref.f t235 t236 t237).bind fun bt247 => ((samphirelaw17_ref.f x229000_2 x229001_2 x229002_2).bind fun bt252 => ((samphireref17_Same.f kj21 bt247.1 bt247.2.1 bt247.2.2 bt252.1 bt252.2.1 bt252.2.2).bind fun t257 => (if t257 = true then (if t243 = x231001_2 then ((samphirelaw17_awake.f kj21).bind fun t258 => (some t258)) else (none)) else (none))))) else (none))) = some r := H
            have A41 := Aside0.mk A410
            clear A410
            by_cases c42 : t244 = 0
            ·
             rw [if_pos c42] at H
             have c42b0 : (t244 == 0) = true := beq_iff_eq.mpr c42
             have c42b1 : (t244 != 0) = false := bne_eq_false_iff_eq.mpr c42
             clear c42
             by_cases c43 : x12_2.length < 8796093022208
             ·
              rw [if_pos c43] at H
              have LMc43 := Aside0.mk c43
              clear c43
              obtain ⟨y259, hy259⟩ : ∃ y_ : List ByteArray, y_ = (x12_2 ++ [((rd_T35 l1 x50_2).f0)]) := ⟨_, rfl⟩
              replace H : (if t236 = (IntKind.u64.wrap (x11_2 + ((rd_T35 l1 x50_2).f1))) then (if (t237.length : Int) = (wrap64 (1 + (wrap64 (Int.tmod a0 10)))) then ((slots_Right.f t235 t236 t237).bind fun t262 => (samphirelaw17_SlotsHolds.j3 kj21 (wrap64 (1 + (wrap64 (Int.tmod a0 10)))) (IntKind.u64.wrap (x11_2 + ((rd_T35 l1 x50_2).f1))) y259 l1 (l1.length : Int) x50_2 (!t262) t235 t236 t237 t240 t243)) else (none)) else (none)) = some r := by first | (rw [hy259]; with_reducible exact H) | (have H2_ := (Option.bind_some _ _).symm.trans H; rw [hy259]; with_reducible exact H2_) | (have H2_ := (Option.bind_some _ _).symm.trans H; with_reducible exact H2_) | with_reducible exact H | (rw [hy259]; exact H) | exact H
              have Ny259 := Aside0.mk hy259
              clear hy259
              have HC44 := Aside0.mk H
              clear H
              have hnb45 := NB228_230.out
              have hnc45 := NB230_228.out
              have hnb46 := NB228_233.out
              have hnc46 := NB233_228.out
              have hcz47_0 : wc.cell? ⟨gb228, 0, none⟩ = some (.int .i64 x229000_2) := (blk_cell BK228.out 0).trans rfl
              have hcz47_1 : wc.cell? ⟨gb228, 1, none⟩ = some (.int .u64 x229001_2) := (blk_cell BK228.out 1).trans rfl
              have hcz47_2 : wc.cell? ⟨gb228, 2, none⟩ = some (u229002) := (blk_cell BK228.out 2).trans rfl
              have hfz47_0 := blk_frozen BK228.out 0
              have hfz47_1 := blk_frozen BK228.out 1
              have hfz47_2 := blk_frozen BK228.out 2
              have hnb48 := NB233_230.out
              have hnc48 := NB230_233.out
              have hcz49_0 : wc.cell? ⟨gb233, 0, none⟩ = some (.string ((rd_T35 l1 x50_2).f0)) := (blk_cell BK233.out 0).trans rfl
              have hcz49_1 : wc.cell? ⟨gb233, 1, none⟩ = some (.int .u64 ((rd_T35 l1 x50_2).f1)) := (blk_cell BK233.out 1).trans rfl
              have hfz49_0 := blk_frozen BK233.out 0
              have hfz49_1 := blk_frozen BK233.out 1
              have hcz50_0 : wc.cell? ⟨gb230, 0, none⟩ = some (u231000) := (blk_cell BK230.out 0).trans rfl
              have hcz50_1 : wc.cell? ⟨gb230, 1, none⟩ = some (.int .i64 x231001_2) := (blk_cell BK230.out 1).trans rfl
              have hfz50_0 := blk_frozen BK230.out 0
              have hfz50_1 := blk_frozen BK230.out 1
              obtain ⟨Ao51, co51, eo51⟩ := Kd.V_slice HO_229002.out
              subst eo51
              obtain ⟨Ao52, co52, eo52⟩ := Kd.V_slice HO_231000.out
              subst eo52
              try go_wp2_with (first | ((with_reducible refine gate_callee (f := 10) rfl ?_); refine goesL_ (some 76) rfl rfl Try.func10 (by kernel_rfl) rfl #[.agg #[.int .i64 x229000_2, .int .u64 x229001_2, .slice Ao51 x229002_2.length co51], .string ((rd_T35 l1 x50_2).f0), .int .u64 ((rd_T35 l1 x50_2).f1), .agg #[.slice Ao52 x231000_2.length co52, .int .i64 x231001_2]] rfl (by (try simp only [List.map_toArray, List.map_cons, List.map_nil]); first | done | rfl | (simp only [List.length_drop, List.length_take]; rfl)) ?_; (with_reducible refine (slots_Add.calls kj21 x229000_2 x229001_2 (fun k_ => ((P2_ k_ ∨ w.heap.size ≤ k_) ∧ (some k_ ≠ (u12 : Value).ownBlock ∧ (k_ ≠ gb228 ∧ (k_ ≠ gb230 ∧ k_ ≠ gb233))))) _ _ x229002_2 ((rd_T35 l1 x50_2).f0) ((rd_T35 l1 x50_2).f1) (fun k_ => ((P2_ k_ ∨ w.heap.size ≤ k_) ∧ (some k_ ≠ (u12 : Value).ownBlock ∧ (k_ ≠ gb228 ∧ (k_ ≠ gb230 ∧ k_ ≠ gb233))))) _ _ x231000_2 x231001_2 t235 t236 t237 t240 t243 t244 _ ?side1 ?side2 A41.out).mono ?_); (case side1 => exact HO_229002.out); (case side2 => exact HO_231000.out); rintro e w53 ⟨v238, v241, rfl, ho0, ho1, hb⟩; refine ⟨_, rfl, ?_⟩; have n0_ := Aside0.mk (Kd.R_below (by (with_reducible repeat (first | apply Kd.R_alloc | apply Kd.R_drewN | apply Kd.R_drew)); exact HO_12.out) hb); have n1_ := Aside0.mk (Kd.V_below (by (with_reducible repeat (first | apply Kd.V_alloc | apply Kd.V_drewN | apply Kd.V_drew)); exact HO_229002.out) hb); have n2_ := Aside0.mk (Kd.V_below (by (with_reducible repeat (first | apply Kd.V_alloc | apply Kd.V_drewN | apply Kd.V_drew)); exact HO_231000.out) hb); have n3_ := Aside0.mk (Kd.V_lower (Kd.V_mono (ok' := fun k_ => (P2_ k_ ∨ w.heap.size ≤ k_) ∧ some k_ ≠ (u12 : Value).ownBlock ∧ k_ ≠ gb228 ∧ k_ ≠ gb230 ∧ k_ ≠ gb233) ho0 (fun k_ hk_ => ⟨Or.elim hk_ (fun hs_ => Or.elim hs_ (fun hs_ => hs_.1) (fun hs_ => hs_.1)) (fun hn_ => (.inr (Nat.le_trans (below_size (by repeat (first | (with_reducible first | exact HB.out | apply below_alloc | apply pw_below_drewN | apply below_drew1 | refine below_set ?_ GE228.out | refine below_set ?_ GE230.out | refine below_set ?_ GE233.out) | exact HB.out))) hn_))), Or.elim hk_ (fun hs_ => Or.elim hs_ (fun hs_ => hs_.2.1) (fun hs_ => hs_.2.1)) (fun hn_ => (Kd.fresh' (Kd.R_lt (by (with_reducible repeat (first | apply Kd.R_alloc | apply Kd.R_drewN | apply Kd.R_drew)); exact HO_12.out)) k_ hn_)), Or.elim hk_ (fun hs_ => Or.elim hs_ (fun hs_ => hs_.2.2.1) (fun hs_ => hs_.2.2.1)) (fun hn_ => (Kd.freshB (g := gb228) (o := .cells #[.int .i64 x229000_2, .int .u64 x229001_2, .slice Ao51 x229002_2.length co51] 27 (0, 0)) (by (with_reducible repeat (first | refine blk_drewN ?_ _ | refine blk_drew ?_ | refine blk_alloc ?_ _)); exact BK228.out) k_ hn_)), Or.elim hk_ (fun hs_ => Or.elim hs_ (fun hs_ => hs_.2.2.2.1) (fun hs_ => hs_.2.2.2.1)) (fun hn_ => (Kd.freshB (g := gb230) (o := .cells #[.slice Ao52 x231000_2.length co52, .int .i64 x231001_2] 33 (0, 0)) (by (with_reducible repeat (first | refine blk_drewN ?_ _ | refine blk_drew ?_ | refine blk_alloc ?_ _)); exact BK230.out) k_ hn_)), Or.elim hk_ (fun hs_ => Or.elim hs_ (fun hs_ => hs_.2.2.2.2) (fun hs_ => hs_.2.2.2.2)) (fun hn_ => (Kd.freshB (g := gb233) (o := .cells #[.string ((rd_T35 l1 x50_2).f0), .int .u64 ((rd_T35 l1 x50_2).f1)] 35 (0, 0)) (by (with_reducible repeat (first | refine blk_drewN ?_ _ | refine blk_drew ?_ | refine blk_alloc ?_ _)); exact BK233.out) k_ hn_))⟩)) (below_size (by repeat (first | (with_reducible first | exact HB.out | apply below_alloc | apply pw_below_drewN | apply below_drew1 | refine below_set ?_ GE228.out | refine below_set ?_ GE230.out | refine below_set ?_ GE233.out) | exact HB.out)))); have n4_ := Aside0.mk (Kd.V_lower (Kd.V_mono (ok' := fun k_ => (P2_ k_ ∨ w.heap.size ≤ k_) ∧ some k_ ≠ (u12 : Value).ownBlock ∧ k_ ≠ gb228 ∧ k_ ≠ gb230 ∧ k_ ≠ gb233) ho1 (fun k_ hk_ => ⟨Or.elim hk_ (fun hs_ => Or.elim hs_ (fun hs_ => hs_.1) (fun hs_ => hs_.1)) (fun hn_ => (.inr (Nat.le_trans (below_size (by repeat (first | (with_reducible first | exact HB.out | apply below_alloc | apply pw_below_drewN | apply below_drew1 | refine below_set ?_ GE228.out | refine below_set ?_ GE230.out | refine below_set ?_ GE233.out) | exact HB.out))) hn_))), Or.elim hk_ (fun hs_ => Or.elim hs_ (fun hs_ => hs_.2.1) (fun hs_ => hs_.2.1)) (fun hn_ => (Kd.fresh' (Kd.R_lt (by (with_reducible repeat (first | apply Kd.R_alloc | apply Kd.R_drewN | apply Kd.R_drew)); exact HO_12.out)) k_ hn_)), Or.elim hk_ (fun hs_ => Or.elim hs_ (fun hs_ => hs_.2.2.1) (fun hs_ => hs_.2.2.1)) (fun hn_ => (Kd.freshB (g := gb228) (o := .cells #[.int .i64 x229000_2, .int .u64 x229001_2, .slice Ao51 x229002_2.length co51] 27 (0, 0)) (by (with_reducible repeat (first | refine blk_drewN ?_ _ | refine blk_drew ?_ | refine blk_alloc ?_ _)); exact BK228.out) k_ hn_)), Or.elim hk_ (fun hs_ => Or.elim hs_ (fun hs_ => hs_.2.2.2.1) (fun hs_ => hs_.2.2.2.1)) (fun hn_ => (Kd.freshB (g := gb230) (o := .cells #[.slice Ao52 x231000_2.length co52, .int .i64 x231001_2] 33 (0, 0)) (by (with_reducible repeat (first | refine blk_drewN ?_ _ | refine blk_drew ?_ | refine blk_alloc ?_ _)); exact BK230.out) k_ hn_)), Or.elim hk_ (fun hs_ => Or.elim hs_ (fun hs_ => hs_.2.2.2.2) (fun hs_ => hs_.2.2.2.2)) (fun hn_ => (Kd.freshB (g := gb233) (o := .cells #[.string ((rd_T35 l1 x50_2).f0), .int .u64 ((rd_T35 l1 x50_2).f1)] 35 (0, 0)) (by (with_reducible repeat (first | refine blk_drewN ?_ _ | refine blk_drew ?_ | refine blk_alloc ?_ _)); exact BK233.out) k_ hn_))⟩)) (below_size (by repeat (first | (with_reducible first | exact HB.out | apply below_alloc | apply pw_below_drewN | apply below_drew1 | refine below_set ?_ GE228.out | refine below_set ?_ GE230.out | refine below_set ?_ GE233.out) | exact HB.out)))); have n5_ := Aside0.mk (blk_below (g := gb228) (o := .cells #[.int .i64 x229000_2, .int .u64 x229001_2, .slice Ao51 x229002_2.length co51] 27 (0, 0)) (by (with_reducible repeat (first | refine blk_drewN ?_ _ | refine blk_drew ?_ | refine blk_alloc ?_ _)); exact BK228.out) hb); have n6_ := Aside0.mk (blk_below (g := gb230) (o := .cells #[.slice Ao52 x231000_2.length co52, .int .i64 x231001_2] 33 (0, 0)) (by (with_reducible repeat (first | refine blk_drewN ?_ _ | refine blk_drew ?_ | refine blk_alloc ?_ _)); exact BK230.out) hb); have n7_ := Aside0.mk (blk_below (g := gb233) (o := .cells #[.string ((rd_T35 l1 x50_2).f0), .int .u64 ((rd_T35 l1 x50_2).f1)] 35 (0, 0)) (by (with_reducible repeat (first | refine blk_drewN ?_ _ | refine blk_drew ?_ | refine blk_alloc ?_ _)); exact BK233.out) hb); have n8_ := Aside0.mk (below_step (by repeat (first | (with_reducible first | exact HB.out | apply below_alloc | apply pw_below_drewN | apply below_drew1 | refine below_set ?_ GE228.out | refine below_set ?_ GE230.out | refine below_set ?_ GE233.out) | exact HB.out)) hb); clear HO_12; clear HO_229002; clear HO_231000; clear BK228; clear BK230; clear BK233; clear HB; have HO_12 := n0_; have HO_229002 := n1_; have HO_231000 := n2_; have HO239 := n3_; have HO242 := n4_; have BK228 := n5_; have BK230 := n6_; have BK233 := n7_; have HB := n8_; clear n0_ n1_ n2_ n3_ n4_ n5_ n6_ n7_ n8_; (try clear hb); (try clear hb2); (try clear hk); (try clear hi); (try clear ho0); (try clear ho1)) | ((with_reducible refine gate_dst (N := 15) rfl ?_); (try (refine gate_guard (by rfl) ?_; dsimp only)); refine box_event ?hg (N := 15) ?hd (cs := #[.int .i64 0, .int .u64 0, .slice none 0 0]) (t := 27) ?hr ?_; (case hd => rfl); (case hg => rfl); (case hr => first | (go_simp; done) | (go_simp; rfl)); intro gb245 hg w54 hbox hb; have n0_ := Aside0.mk (Kd.R_below (by (with_reducible repeat (first | apply Kd.R_alloc | apply Kd.R_drewN | apply Kd.R_drew)); exact HO_12.out) hb); have n1_ := Aside0.mk (Kd.V_below (Kd.V_elderB (by (with_reducible repeat (first | apply Kd.V_alloc | apply Kd.V_drewN | apply Kd.V_drew)); exact HO_229002.out) gb245 (Nat.le_of_eq hg.symm)) hb); have n2_ := Aside0.mk (Kd.V_below (Kd.V_elderB (by (with_reducible repeat (first | apply Kd.V_alloc | apply Kd.V_drewN | apply Kd.V_drew)); exact HO_231000.out) gb245 (Nat.le_of_eq hg.symm)) hb); have n3_ := Aside0.mk (Kd.V_below (Kd.V_elderB (by (with_reducible repeat (first | apply Kd.V_alloc | apply Kd.V_drewN | apply Kd.V_drew)); exact HO239.out) gb245 (Nat.le_of_eq hg.symm)) hb); have n4_ := Aside0.mk (Kd.V_below (Kd.V_elderB (by (with_reducible repeat (first | apply Kd.V_alloc | apply Kd.V_drewN | apply Kd.V_drew)); exact HO242.out) gb245 (Nat.le_of_eq hg.symm)) hb); have n5_ := Aside0.mk (blk_below (g := gb228) (o := .cells #[.int .i64 x229000_2, .int .u64 x229001_2, .slice Ao51 x229002_2.length co51] 27 (0, 0)) (by (with_reducible repeat (first | refine blk_drewN ?_ _ | refine blk_drew ?_ | refine blk_alloc ?_ _)); exact BK228.out) hb); have n6_ := Aside0.mk (blk_below (g := gb230) (o := .cells #[.slice Ao52 x231000_2.length co52, .int .i64 x231001_2] 33 (0, 0)) (by (with_reducible repeat (first | refine blk_drewN ?_ _ | refine blk_drew ?_ | refine blk_alloc ?_ _)); exact BK230.out) hb); have n7_ := Aside0.mk (blk_below (g := gb233) (o := .cells #[.string ((rd_T35 l1 x50_2).f0), .int .u64 ((rd_T35 l1 x50_2).f1)] 35 (0, 0)) (by (with_reducible repeat (first | refine blk_drewN ?_ _ | refine blk_drew ?_ | refine blk_alloc ?_ _)); exact BK233.out) hb); have n8_ := Aside0.mk (below_step (by repeat (first | (with_reducible first | exact HB.out | apply below_alloc | apply pw_below_drewN | apply below_drew1 | refine below_set ?_ GE228.out | refine below_set ?_ GE230.out | refine below_set ?_ GE233.out) | exact HB.out)) hb); have n9_ := Aside0.mk (hbox); have n10_ := Aside0.mk ((by rw [hg]; exact (below_size (by repeat (first | (with_reducible first | exact HB.out | apply below_alloc | apply pw_below_drewN | apply below_drew1 | refine below_set ?_ GE228.out | refine below_set ?_ GE230.out | refine below_set ?_ GE233.out) | exact HB.out))) : w.heap.size ≤ gb245)); have n11_ := Aside0.mk ((by rw [hg]; exact (below_size (by repeat (first | (with_reducible first | exact HB.out | apply below_alloc | apply pw_below_drewN | apply below_drew1 | refine below_set ?_ GE228.out | refine below_set ?_ GE230.out | refine below_set ?_ GE233.out) | exact HB.out))) : w.heap.size ≤ gb245)); have n12_ := Aside0.mk ((by rw [hg]; exact Nat.ne_of_lt (blk_lt (g := gb228) (o := .cells #[.int .i64 x229000_2, .int .u64 x229001_2, .slice Ao51 x229002_2.length co51] 27 (0, 0)) (by (with_reducible repeat (first | refine blk_drewN ?_ _ | refine blk_drew ?_ | refine blk_alloc ?_ _)); exact BK228.out)) : gb228 ≠ gb245)); have n13_ := Aside0.mk ((by rw [hg]; exact Nat.ne_of_gt (blk_lt (g := gb228) (o := .cells #[.int .i64 x229000_2, .int .u64 x229001_2, .slice Ao51 x229002_2.length co51] 27 (0, 0)) (by (with_reducible repeat (first | refine blk_drewN ?_ _ | refine blk_drew ?_ | refine blk_alloc ?_ _)); exact BK228.out)) : gb245 ≠ gb228)); have n14_ := Aside0.mk ((by rw [hg]; exact Nat.ne_of_lt (blk_lt (g := gb230) (o := .cells #[.slice Ao52 x231000_2.length co52, .int .i64 x231001_2] 33 (0, 0)) (by (with_reducible repeat (first | refine blk_drewN ?_ _ | refine blk_drew ?_ | refine blk_alloc ?_ _)); exact BK230.out)) : gb230 ≠ gb245)); have n15_ := Aside0.mk ((by rw [hg]; exact Nat.ne_of_gt (blk_lt (g := gb230) (o := .cells #[.slice Ao52 x231000_2.length co52, .int .i64 x231001_2] 33 (0, 0)) (by (with_reducible repeat (first | refine blk_drewN ?_ _ | refine blk_drew ?_ | refine blk_alloc ?_ _)); exact BK230.out)) : gb245 ≠ gb230)); have n16_ := Aside0.mk ((by rw [hg]; exact Nat.ne_of_lt (blk_lt (g := gb233) (o := .cells #[.string ((rd_T35 l1 x50_2).f0), .int .u64 ((rd_T35 l1 x50_2).f1)] 35 (0, 0)) (by (with_reducible repeat (first | refine blk_drewN ?_ _ | refine blk_drew ?_ | refine blk_alloc ?_ _)); exact BK233.out)) : gb233 ≠ gb245)); have n17_ := Aside0.mk ((by rw [hg]; exact Nat.ne_of_gt (blk_lt (g := gb233) (o := .cells #[.string ((rd_T35 l1 x50_2).f0), .int .u64 ((rd_T35 l1 x50_2).f1)] 35 (0, 0)) (by (with_reducible repeat (first | refine blk_drewN ?_ _ | refine blk_drew ?_ | refine blk_alloc ?_ _)); exact BK233.out)) : gb245 ≠ gb233)); clear HO_12; clear HO_229002; clear HO_231000; clear HO239; clear HO242; clear BK228; clear BK230; clear BK233; clear HB; have HO_12 := n0_; have HO_229002 := n1_; have HO_231000 := n2_; have HO239 := n3_; have HO242 := n4_; have BK228 := n5_; have BK230 := n6_; have BK233 := n7_; have HB := n8_; have BK245 := n9_; have GW245 := n10_; have GE245 := n11_; have NB228_245 := n12_; have NB245_228 := n13_; have NB230_245 := n14_; have NB245_230 := n15_; have NB233_245 := n16_; have NB245_233 := n17_; clear n0_ n1_ n2_ n3_ n4_ n5_ n6_ n7_ n8_ n9_ n10_ n11_ n12_ n13_ n14_ n15_ n16_ n17_; clear hb hbox hg) | ((with_reducible refine gate_dst (N := 16) rfl ?_); (try (refine gate_guard (by rfl) ?_; dsimp only)); refine box_event ?hg (N := 16) ?hd (cs := #[.slice none 0 0, .int .i64 0]) (t := 33) ?hr ?_; (case hd => rfl); (case hg => rfl); (case hr => first | (go_simp; done) | (go_simp; rfl)); intro gb246 hg w55 hbox hb; have n0_ := Aside0.mk (Kd.R_below (by (with_reducible repeat (first | apply Kd.R_alloc | apply Kd.R_drewN | apply Kd.R_drew)); exact HO_12.out) hb); have n1_ := Aside0.mk (Kd.V_below (Kd.V_elderB (by (with_reducible repeat (first | apply Kd.V_alloc | apply Kd.V_drewN | apply Kd.V_drew)); exact HO_229002.out) gb246 (Nat.le_of_eq hg.symm)) hb); have n2_ := Aside0.mk (Kd.V_below (Kd.V_elderB (by (with_reducible repeat (first | apply Kd.V_alloc | apply Kd.V_drewN | apply Kd.V_drew)); exact HO_231000.out) gb246 (Nat.le_of_eq hg.symm)) hb); have n3_ := Aside0.mk (Kd.V_below (Kd.V_elderB (by (with_reducible repeat (first | apply Kd.V_alloc | apply Kd.V_drewN | apply Kd.V_drew)); exact HO239.out) gb246 (Nat.le_of_eq hg.symm)) hb); have n4_ := Aside0.mk (Kd.V_below (Kd.V_elderB (by (with_reducible repeat (first | apply Kd.V_alloc | apply Kd.V_drewN | apply Kd.V_drew)); exact HO242.out) gb246 (Nat.le_of_eq hg.symm)) hb); have n5_ := Aside0.mk (blk_below (g := gb228) (o := .cells #[.int .i64 x229000_2, .int .u64 x229001_2, .slice Ao51 x229002_2.length co51] 27 (0, 0)) (by (with_reducible repeat (first | refine blk_drewN ?_ _ | refine blk_drew ?_ | refine blk_alloc ?_ _)); exact BK228.out) hb); have n6_ := Aside0.mk (blk_below (g := gb230) (o := .cells #[.slice Ao52 x231000_2.length co52, .int .i64 x231001_2] 33 (0, 0)) (by (with_reducible repeat (first | refine blk_drewN ?_ _ | refine blk_drew ?_ | refine blk_alloc ?_ _)); exact BK230.out) hb); have n7_ := Aside0.mk (blk_below (g := gb233) (o := .cells #[.string ((rd_T35 l1 x50_2).f0), .int .u64 ((rd_T35 l1 x50_2).f1)] 35 (0, 0)) (by (with_reducible repeat (first | refine blk_drewN ?_ _ | refine blk_drew ?_ | refine blk_alloc ?_ _)); exact BK233.out) hb); have n8_ := Aside0.mk (blk_below (g := gb245) (o := .cells #[.int .i64 0, .int .u64 0, .slice none 0 0] 27 (0, 0)) (by (with_reducible repeat (first | refine blk_drewN ?_ _ | refine blk_drew ?_ | refine blk_alloc ?_ _)); exact BK245.out) hb); have n9_ := Aside0.mk (below_step (by repeat (first | (with_reducible first | exact HB.out | apply below_alloc | apply pw_below_drewN | apply below_drew1 | refine below_set ?_ GE228.out | refine below_set ?_ GE230.out | refine below_set ?_ GE233.out | refine below_set ?_ GE245.out) | exact HB.out)) hb); have n10_ := Aside0.mk (hbox); have n11_ := Aside0.mk ((by rw [hg]; exact (below_size (by repeat (first | (with_reducible first | exact HB.out | apply below_alloc | apply pw_below_drewN | apply below_drew1 | refine below_set ?_ GE228.out | refine below_set ?_ GE230.out | refine below_set ?_ GE233.out | refine below_set ?_ GE245.out) | exact HB.out))) : w.heap.size ≤ gb246)); have n12_ := Aside0.mk ((by rw [hg]; exact (below_size (by repeat (first | (with_reducible first | exact HB.out | apply below_alloc | apply pw_below_drewN | apply below_drew1 | refine below_set ?_ GE228.out | refine below_set ?_ GE230.out | refine below_set ?_ GE233.out | refine below_set ?_ GE245.out) | exact HB.out))) : w.heap.size ≤ gb246)); have n13_ := Aside0.mk ((by rw [hg]; exact Nat.ne_of_lt (blk_lt (g := gb228) (o := .cells #[.int .i64 x229000_2, .int .u64 x229001_2, .slice Ao51 x229002_2.length co51] 27 (0, 0)) (by (with_reducible repeat (first | refine blk_drewN ?_ _ | refine blk_drew ?_ | refine blk_alloc ?_ _)); exact BK228.out)) : gb228 ≠ gb246)); have n14_ := Aside0.mk ((by rw [hg]; exact Nat.ne_of_gt (blk_lt (g := gb228) (o := .cells #[.int .i64 x229000_2, .int .u64 x229001_2, .slice Ao51 x229002_2.length co51] 27 (0, 0)) (by (with_reducible repeat (first | refine blk_drewN ?_ _ | refine blk_drew ?_ | refine blk_alloc ?_ _)); exact BK228.out)) : gb246 ≠ gb228)); have n15_ := Aside0.mk ((by rw [hg]; exact Nat.ne_of_lt (blk_lt (g := gb230) (o := .cells #[.slice Ao52 x231000_2.length co52, .int .i64 x231001_2] 33 (0, 0)) (by (with_reducible repeat (first | refine blk_drewN ?_ _ | refine blk_drew ?_ | refine blk_alloc ?_ _)); exact BK230.out)) : gb230 ≠ gb246)); have n16_ := Aside0.mk ((by rw [hg]; exact Nat.ne_of_gt (blk_lt (g := gb230) (o := .cells #[.slice Ao52 x231000_2.length co52, .int .i64 x231001_2] 33 (0, 0)) (by (with_reducible repeat (first | refine blk_drewN ?_ _ | refine blk_drew ?_ | refine blk_alloc ?_ _)); exact BK230.out)) : gb246 ≠ gb230)); have n17_ := Aside0.mk ((by rw [hg]; exact Nat.ne_of_lt (blk_lt (g := gb233) (o := .cells #[.string ((rd_T35 l1 x50_2).f0), .int .u64 ((rd_T35 l1 x50_2).f1)] 35 (0, 0)) (by (with_reducible repeat (first | refine blk_drewN ?_ _ | refine blk_drew ?_ | refine blk_alloc ?_ _)); exact BK233.out)) : gb233 ≠ gb246)); have n18_ := Aside0.mk ((by rw [hg]; exact Nat.ne_of_gt (blk_lt (g := gb233) (o := .cells #[.string ((rd_T35 l1 x50_2).f0), .int .u64 ((rd_T35 l1 x50_2).f1)] 35 (0, 0)) (by (with_reducible repeat (first | refine blk_drewN ?_ _ | refine blk_drew ?_ | refine blk_alloc ?_ _)); exact BK233.out)) : gb246 ≠ gb233)); have n19_ := Aside0.mk ((by rw [hg]; exact Nat.ne_of_lt (blk_lt (g := gb245) (o := .cells #[.int .i64 0, .int .u64 0, .slice none 0 0] 27 (0, 0)) (by (with_reducible repeat (first | refine blk_drewN ?_ _ | refine blk_drew ?_ | refine blk_alloc ?_ _)); exact BK245.out)) : gb245 ≠ gb246)); have n20_ := Aside0.mk ((by rw [hg]; exact Nat.ne_of_gt (blk_lt (g := gb245) (o := .cells #[.int .i64 0, .int .u64 0, .slice none 0 0] 27 (0, 0)) (by (with_reducible repeat (first | refine blk_drewN ?_ _ | refine blk_drew ?_ | refine blk_alloc ?_ _)); exact BK245.out)) : gb246 ≠ gb245)); clear HO_12; clear HO_229002; clear HO_231000; clear HO239; clear HO242; clear BK228; clear BK230; clear BK233; clear BK245; clear HB; have HO_12 := n0_; have HO_229002 := n1_; have HO_231000 := n2_; have HO239 := n3_; have HO242 := n4_; have BK228 := n5_; have BK230 := n6_; have BK233 := n7_; have BK245 := n8_; have HB := n9_; have BK246 := n10_; have GW246 := n11_; have GE246 := n12_; have NB228_246 := n13_; have NB246_228 := n14_; have NB230_246 := n15_; have NB246_230 := n16_; have NB233_246 := n17_; have NB246_233 := n18_; have NB245_246 := n19_; have NB246_245 := n20_; clear n0_ n1_ n2_ n3_ n4_ n5_ n6_ n7_ n8_ n9_ n10_ n11_ n12_ n13_ n14_ n15_ n16_ n17_ n18_ n19_ n20_; clear hb hbox hg; have hnb56 := NB245_228.out; have hnc56 := NB228_245.out; have hnb57 := NB245_230.out; have hnc57 := NB230_245.out; have hnb58 := NB245_233.out; have hnc58 := NB233_245.out; have hnb59 := NB245_246.out; have hnc59 := NB246_245.out; have hcz60_0 : w55.cell? ⟨gb245, 0, none⟩ = some (.int .i64 0) := (blk_cell BK245.out 0).trans rfl; have hcz60_1 : w55.cell? ⟨gb245, 1, none⟩ = some (.int .u64 0) := (blk_cell BK245.out 1).trans rfl; have hcz60_2 : w55.cell? ⟨gb245, 2, none⟩ = some (.slice none 0 0) := (blk_cell BK245.out 2).trans rfl; have hfz60_0 := blk_frozen BK245.out 0; have hfz60_1 := blk_frozen BK245.out 1; have hfz60_2 := blk_frozen BK245.out 2; obtain ⟨Ao61, co61, eo61⟩ := Kd.V_slice HO239.out; subst eo61; obtain ⟨Ao62, co62, eo62⟩ := Kd.V_slice HO242.out; subst eo62; have hnb63 := NB246_228.out; have hnc63 := NB228_246.out; have hnb64 := NB246_230.out; have hnc64 := NB230_246.out; have hnb65 := NB246_233.out; have hnc65 := NB233_246.out; have hcz66_0 : w55.cell? ⟨gb246, 0, none⟩ = some (.slice none 0 0) := (blk_cell BK246.out 0).trans rfl; have hcz66_1 : w55.cell? ⟨gb246, 1, none⟩ = some (.int .i64 0) := (blk_cell BK246.out 1).trans rfl; have hfz66_0 := blk_frozen BK246.out 0; have hfz66_1 := blk_frozen BK246.out 1))
              have n0_ : Aside0 (Kd.R Kd.string 9 (((((w55.setCell ⟨gb245, 0, none⟩ (.int .i64 t235)).setCell ⟨gb245, 1, none⟩ (.int .u64 t236)).setCell ⟨gb245, 2, none⟩ (.slice Ao61 t237.length co61)).setCell ⟨gb246, 0, none⟩ (.slice Ao62 t240.length co62)).setCell ⟨gb246, 1, none⟩ (.int .i64 t243)) w.heap.size (fun k_ => (w.heap.size ≤ k_)) u12 x12_2) := ⟨by (with_reducible repeat (first | apply Kd.R_alloc | apply Kd.R_drewN | apply Kd.R_drew)); exact Kd.R_mono (Kd.R_far (p := ⟨gb246, 1, none⟩) (Kd.R_far (p := ⟨gb246, 0, none⟩) (Kd.R_far (p := ⟨gb245, 2, none⟩) (Kd.R_far (p := ⟨gb245, 1, none⟩) (Kd.R_far (p := ⟨gb245, 0, none⟩) (Kd.R_types (Kd.R_types HO_12.out BK245.out (by decide)) BK246.out (by decide)) (fun _ hk => hk.1.2) (.int .i64 t235)) (fun _ hk => hk.1.2) (.int .u64 t236)) (fun _ hk => hk.1.2) (.slice Ao61 t237.length co61)) (fun _ hk => hk.2) (.slice Ao62 t240.length co62)) (fun _ hk => hk.2) (.int .i64 t243)) (fun _ hk => hk.1.1)⟩
              have n1_ : Aside0 (Kd.V Kd.string 9 (((((w55.setCell ⟨gb245, 0, none⟩ (.int .i64 t235)).setCell ⟨gb245, 1, none⟩ (.int .u64 t236)).setCell ⟨gb245, 2, none⟩ (.slice Ao61 t237.length co61)).setCell ⟨gb246, 0, none⟩ (.slice Ao62 t240.length co62)).setCell ⟨gb246, 1, none⟩ (.int .i64 t243)) w.heap.size (fun k_ => (P2_ k_ ∨ w.heap.size ≤ k_) ∧ some k_ ≠ (u12 : Value).ownBlock ∧ k_ ≠ gb228 ∧ k_ ≠ gb230 ∧ k_ ≠ gb233 ∧ k_ ≠ gb245 ∧ k_ ≠ gb246) (.slice Ao51 x229002_2.length co51) x229002_2) := ⟨by (with_reducible repeat (first | apply Kd.V_alloc | apply Kd.V_drewN | apply Kd.V_drew)); exact Kd.V_mono (Kd.V_far (p := ⟨gb246, 1, none⟩) (Kd.V_far (p := ⟨gb246, 0, none⟩) (Kd.V_far (p := ⟨gb245, 2, none⟩) (Kd.V_far (p := ⟨gb245, 1, none⟩) (Kd.V_far (p := ⟨gb245, 0, none⟩) (Kd.V_mono (Kd.V_mono HO_229002.out (fun k_ hk => (⟨hk, hk.1.2⟩ : _ ∧ k_ ≠ gb245))) (fun k_ hk => (⟨hk, hk.1.2⟩ : _ ∧ k_ ≠ gb246))) (fun _ hk => hk.1.2) (.int .i64 t235)) (fun _ hk => hk.1.2) (.int .u64 t236)) (fun _ hk => hk.1.2) (.slice Ao61 t237.length co61)) (fun _ hk => hk.2) (.slice Ao62 t240.length co62)) (fun _ hk => hk.2) (.int .i64 t243)) (fun _ hk => ⟨hk.1.1.1.1.1, ⟨hk.1.1.1.1.2.1, ⟨hk.1.1.1.1.2.2.1, ⟨hk.1.1.1.1.2.2.2.1, ⟨hk.1.1.1.1.2.2.2.2, ⟨hk.1.1.1.2, hk.1.1.2⟩⟩⟩⟩⟩⟩)⟩
              have n2_ : Aside0 (Kd.V (Kd.int .u64) 24 (((((w55.setCell ⟨gb245, 0, none⟩ (.int .i64 t235)).setCell ⟨gb245, 1, none⟩ (.int .u64 t236)).setCell ⟨gb245, 2, none⟩ (.slice Ao61 t237.length co61)).setCell ⟨gb246, 0, none⟩ (.slice Ao62 t240.length co62)).setCell ⟨gb246, 1, none⟩ (.int .i64 t243)) w.heap.size (fun k_ => (P2_ k_ ∨ w.heap.size ≤ k_) ∧ some k_ ≠ (u12 : Value).ownBlock ∧ k_ ≠ gb228 ∧ k_ ≠ gb230 ∧ k_ ≠ gb233 ∧ k_ ≠ gb245 ∧ k_ ≠ gb246) (.slice Ao52 x231000_2.length co52) x231000_2) := ⟨by (with_reducible repeat (first | apply Kd.V_alloc | apply Kd.V_drewN | apply Kd.V_drew)); exact Kd.V_mono (Kd.V_far (p := ⟨gb246, 1, none⟩) (Kd.V_far (p := ⟨gb246, 0, none⟩) (Kd.V_far (p := ⟨gb245, 2, none⟩) (Kd.V_far (p := ⟨gb245, 1, none⟩) (Kd.V_far (p := ⟨gb245, 0, none⟩) (Kd.V_mono (Kd.V_mono HO_231000.out (fun k_ hk => (⟨hk, hk.1.2⟩ : _ ∧ k_ ≠ gb245))) (fun k_ hk => (⟨hk, hk.1.2⟩ : _ ∧ k_ ≠ gb246))) (fun _ hk => hk.1.2) (.int .i64 t235)) (fun _ hk => hk.1.2) (.int .u64 t236)) (fun _ hk => hk.1.2) (.slice Ao61 t237.length co61)) (fun _ hk => hk.2) (.slice Ao62 t240.length co62)) (fun _ hk => hk.2) (.int .i64 t243)) (fun _ hk => ⟨hk.1.1.1.1.1, ⟨hk.1.1.1.1.2.1, ⟨hk.1.1.1.1.2.2.1, ⟨hk.1.1.1.1.2.2.2.1, ⟨hk.1.1.1.1.2.2.2.2, ⟨hk.1.1.1.2, hk.1.1.2⟩⟩⟩⟩⟩⟩)⟩
              have n3_ : Aside0 (Kd.V Kd.string 9 (((((w55.setCell ⟨gb245, 0, none⟩ (.int .i64 t235)).setCell ⟨gb245, 1, none⟩ (.int .u64 t236)).setCell ⟨gb245, 2, none⟩ (.slice Ao61 t237.length co61)).setCell ⟨gb246, 0, none⟩ (.slice Ao62 t240.length co62)).setCell ⟨gb246, 1, none⟩ (.int .i64 t243)) w.heap.size (fun k_ => (P2_ k_ ∨ w.heap.size ≤ k_) ∧ some k_ ≠ (u12 : Value).ownBlock ∧ k_ ≠ gb228 ∧ k_ ≠ gb230 ∧ k_ ≠ gb233 ∧ k_ ≠ gb245 ∧ k_ ≠ gb246) (.slice Ao61 t237.length co61) t237) := ⟨by (with_reducible repeat (first | apply Kd.V_alloc | apply Kd.V_drewN | apply Kd.V_drew)); exact Kd.V_mono (Kd.V_far (p := ⟨gb246, 1, none⟩) (Kd.V_far (p := ⟨gb246, 0, none⟩) (Kd.V_far (p := ⟨gb245, 2, none⟩) (Kd.V_far (p := ⟨gb245, 1, none⟩) (Kd.V_far (p := ⟨gb245, 0, none⟩) (Kd.V_mono (Kd.V_mono HO239.out (fun k_ hk => (⟨hk, hk.1.2⟩ : _ ∧ k_ ≠ gb245))) (fun k_ hk => (⟨hk, hk.1.2⟩ : _ ∧ k_ ≠ gb246))) (fun _ hk => hk.1.2) (.int .i64 t235)) (fun _ hk => hk.1.2) (.int .u64 t236)) (fun _ hk => hk.1.2) (.slice Ao61 t237.length co61)) (fun _ hk => hk.2) (.slice Ao62 t240.length co62)) (fun _ hk => hk.2) (.int .i64 t243)) (fun _ hk => ⟨hk.1.1.1.1.1, ⟨hk.1.1.1.1.2.1, ⟨hk.1.1.1.1.2.2.1, ⟨hk.1.1.1.1.2.2.2.1, ⟨hk.1.1.1.1.2.2.2.2, ⟨hk.1.1.1.2, hk.1.1.2⟩⟩⟩⟩⟩⟩)⟩
              have n4_ : Aside0 (Kd.V (Kd.int .u64) 24 (((((w55.setCell ⟨gb245, 0, none⟩ (.int .i64 t235)).setCell ⟨gb245, 1, none⟩ (.int .u64 t236)).setCell ⟨gb245, 2, none⟩ (.slice Ao61 t237.length co61)).setCell ⟨gb246, 0, none⟩ (.slice Ao62 t240.length co62)).setCell ⟨gb246, 1, none⟩ (.int .i64 t243)) w.heap.size (fun k_ => (P2_ k_ ∨ w.heap.size ≤ k_) ∧ some k_ ≠ (u12 : Value).ownBlock ∧ k_ ≠ gb228 ∧ k_ ≠ gb230 ∧ k_ ≠ gb233 ∧ k_ ≠ gb245 ∧ k_ ≠ gb246) (.slice Ao62 t240.length co62) t240) := ⟨by (with_reducible repeat (first | apply Kd.V_alloc | apply Kd.V_drewN | apply Kd.V_drew)); exact Kd.V_mono (Kd.V_far (p := ⟨gb246, 1, none⟩) (Kd.V_far (p := ⟨gb246, 0, none⟩) (Kd.V_far (p := ⟨gb245, 2, none⟩) (Kd.V_far (p := ⟨gb245, 1, none⟩) (Kd.V_far (p := ⟨gb245, 0, none⟩) (Kd.V_mono (Kd.V_mono HO242.out (fun k_ hk => (⟨hk, hk.1.2⟩ : _ ∧ k_ ≠ gb245))) (fun k_ hk => (⟨hk, hk.1.2⟩ : _ ∧ k_ ≠ gb246))) (fun _ hk => hk.1.2) (.int .i64 t235)) (fun _ hk => hk.1.2) (.int .u64 t236)) (fun _ hk => hk.1.2) (.slice Ao61 t237.length co61)) (fun _ hk => hk.2) (.slice Ao62 t240.length co62)) (fun _ hk => hk.2) (.int .i64 t243)) (fun _ hk => ⟨hk.1.1.1.1.1, ⟨hk.1.1.1.1.2.1, ⟨hk.1.1.1.1.2.2.1, ⟨hk.1.1.1.1.2.2.2.1, ⟨hk.1.1.1.1.2.2.2.2, ⟨hk.1.1.1.2, hk.1.1.2⟩⟩⟩⟩⟩⟩)⟩
              have n5_ : Aside0 ((((((w55.setCell ⟨gb245, 0, none⟩ (.int .i64 t235)).setCell ⟨gb245, 1, none⟩ (.int .u64 t236)).setCell ⟨gb245, 2, none⟩ (.slice Ao61 t237.length co61)).setCell ⟨gb246, 0, none⟩ (.slice Ao62 t240.length co62)).setCell ⟨gb246, 1, none⟩ (.int .i64 t243)).heap[gb228]? = some (.cells #[.int .i64 x229000_2, .int .u64 x229001_2, .slice Ao51 x229002_2.length co51] 27 (0, 0))) := ⟨by (with_reducible repeat (first | refine blk_drewN ?_ _ | refine blk_drew ?_ | refine blk_alloc ?_ _)); refine blk_far ?_ NB228_246.out _; (with_reducible repeat (first | refine blk_drewN ?_ _ | refine blk_drew ?_ | refine blk_alloc ?_ _)); refine blk_far ?_ NB228_246.out _; (with_reducible repeat (first | refine blk_drewN ?_ _ | refine blk_drew ?_ | refine blk_alloc ?_ _)); refine blk_far ?_ NB228_245.out _; (with_reducible repeat (first | refine blk_drewN ?_ _ | refine blk_drew ?_ | refine blk_alloc ?_ _)); refine blk_far ?_ NB228_245.out _; (with_reducible repeat (first | refine blk_drewN ?_ _ | refine blk_drew ?_ | refine blk_alloc ?_ _)); refine blk_far ?_ NB228_245.out _; (with_reducible repeat (first | refine blk_drewN ?_ _ | refine blk_drew ?_ | refine blk_alloc ?_ _)); exact BK228.out⟩
              have n6_ : Aside0 ((((((w55.setCell ⟨gb245, 0, none⟩ (.int .i64 t235)).setCell ⟨gb245, 1, none⟩ (.int .u64 t236)).setCell ⟨gb245, 2, none⟩ (.slice Ao61 t237.length co61)).setCell ⟨gb246, 0, none⟩ (.slice Ao62 t240.length co62)).setCell ⟨gb246, 1, none⟩ (.int .i64 t243)).heap[gb230]? = some (.cells #[.slice Ao52 x231000_2.length co52, .int .i64 x231001_2] 33 (0, 0))) := ⟨by (with_reducible repeat (first | refine blk_drewN ?_ _ | refine blk_drew ?_ | refine blk_alloc ?_ _)); refine blk_far ?_ NB230_246.out _; (with_reducible repeat (first | refine blk_drewN ?_ _ | refine blk_drew ?_ | refine blk_alloc ?_ _)); refine blk_far ?_ NB230_246.out _; (with_reducible repeat (first | refine blk_drewN ?_ _ | refine blk_drew ?_ | refine blk_alloc ?_ _)); refine blk_far ?_ NB230_245.out _; (with_reducible repeat (first | refine blk_drewN ?_ _ | refine blk_drew ?_ | refine blk_alloc ?_ _)); refine blk_far ?_ NB230_245.out _; (with_reducible repeat (first | refine blk_drewN ?_ _ | refine blk_drew ?_ | refine blk_alloc ?_ _)); refine blk_far ?_ NB230_245.out _; (with_reducible repeat (first | refine blk_drewN ?_ _ | refine blk_drew ?_ | refine blk_alloc ?_ _)); exact BK230.out⟩
              have n7_ : Aside0 ((((((w55.setCell ⟨gb245, 0, none⟩ (.int .i64 t235)).setCell ⟨gb245, 1, none⟩ (.int .u64 t236)).setCell ⟨gb245, 2, none⟩ (.slice Ao61 t237.length co61)).setCell ⟨gb246, 0, none⟩ (.slice Ao62 t240.length co62)).setCell ⟨gb246, 1, none⟩ (.int .i64 t243)).heap[gb233]? = some (.cells #[.string ((rd_T35 l1 x50_2).f0), .int .u64 ((rd_T35 l1 x50_2).f1)] 35 (0, 0))) := ⟨by (with_reducible repeat (first | refine blk_drewN ?_ _ | refine blk_drew ?_ | refine blk_alloc ?_ _)); refine blk_far ?_ NB233_246.out _; (with_reducible repeat (first | refine blk_drewN ?_ _ | refine blk_drew ?_ | refine blk_alloc ?_ _)); refine blk_far ?_ NB233_246.out _; (with_reducible repeat (first | refine blk_drewN ?_ _ | refine blk_drew ?_ | refine blk_alloc ?_ _)); refine blk_far ?_ NB233_245.out _; (with_reducible repeat (first | refine blk_drewN ?_ _ | refine blk_drew ?_ | refine blk_alloc ?_ _)); refine blk_far ?_ NB233_245.out _; (with_reducible repeat (first | refine blk_drewN ?_ _ | refine blk_drew ?_ | refine blk_alloc ?_ _)); refine blk_far ?_ NB233_245.out _; (with_reducible repeat (first | refine blk_drewN ?_ _ | refine blk_drew ?_ | refine blk_alloc ?_ _)); exact BK233.out⟩
              have n8_ : Aside0 ((((((w55.setCell ⟨gb245, 0, none⟩ (.int .i64 t235)).setCell ⟨gb245, 1, none⟩ (.int .u64 t236)).setCell ⟨gb245, 2, none⟩ (.slice Ao61 t237.length co61)).setCell ⟨gb246, 0, none⟩ (.slice Ao62 t240.length co62)).setCell ⟨gb246, 1, none⟩ (.int .i64 t243)).heap[gb245]? = some (.cells #[.int .i64 t235, .int .u64 t236, .slice Ao61 t237.length co61] 27 (0, 0))) := ⟨by (with_reducible repeat (first | refine blk_drewN ?_ _ | refine blk_drew ?_ | refine blk_alloc ?_ _)); refine blk_far ?_ NB245_246.out _; (with_reducible repeat (first | refine blk_drewN ?_ _ | refine blk_drew ?_ | refine blk_alloc ?_ _)); refine blk_far ?_ NB245_246.out _; (with_reducible repeat (first | refine blk_drewN ?_ _ | refine blk_drew ?_ | refine blk_alloc ?_ _)); refine blk_put (cs := #[.int .i64 t235, .int .u64 t236, .slice none 0 0]) ?_ 2 _ rfl; (with_reducible repeat (first | refine blk_drewN ?_ _ | refine blk_drew ?_ | refine blk_alloc ?_ _)); refine blk_put (cs := #[.int .i64 t235, .int .u64 0, .slice none 0 0]) ?_ 1 _ rfl; (with_reducible repeat (first | refine blk_drewN ?_ _ | refine blk_drew ?_ | refine blk_alloc ?_ _)); refine blk_put (cs := #[.int .i64 0, .int .u64 0, .slice none 0 0]) ?_ 0 _ rfl; (with_reducible repeat (first | refine blk_drewN ?_ _ | refine blk_drew ?_ | refine blk_alloc ?_ _)); exact BK245.out⟩
              have n9_ : Aside0 ((((((w55.setCell ⟨gb245, 0, none⟩ (.int .i64 t235)).setCell ⟨gb245, 1, none⟩ (.int .u64 t236)).setCell ⟨gb245, 2, none⟩ (.slice Ao61 t237.length co61)).setCell ⟨gb246, 0, none⟩ (.slice Ao62 t240.length co62)).setCell ⟨gb246, 1, none⟩ (.int .i64 t243)).heap[gb246]? = some (.cells #[.slice Ao62 t240.length co62, .int .i64 t243] 33 (0, 0))) := ⟨by (with_reducible repeat (first | refine blk_drewN ?_ _ | refine blk_drew ?_ | refine blk_alloc ?_ _)); refine blk_put (cs := #[.slice Ao62 t240.length co62, .int .i64 0]) ?_ 1 _ rfl; (with_reducible repeat (first | refine blk_drewN ?_ _ | refine blk_drew ?_ | refine blk_alloc ?_ _)); refine blk_put (cs := #[.slice none 0 0, .int .i64 0]) ?_ 0 _ rfl; (with_reducible repeat (first | refine blk_drewN ?_ _ | refine blk_drew ?_ | refine blk_alloc ?_ _)); refine blk_far ?_ NB246_245.out _; (with_reducible repeat (first | refine blk_drewN ?_ _ | refine blk_drew ?_ | refine blk_alloc ?_ _)); refine blk_far ?_ NB246_245.out _; (with_reducible repeat (first | refine blk_drewN ?_ _ | refine blk_drew ?_ | refine blk_alloc ?_ _)); refine blk_far ?_ NB246_245.out _; (with_reducible repeat (first | refine blk_drewN ?_ _ | refine blk_drew ?_ | refine blk_alloc ?_ _)); exact BK246.out⟩
              have n10_ : Aside0 (Below w.heap.size w (((((w55.setCell ⟨gb245, 0, none⟩ (.int .i64 t235)).setCell ⟨gb245, 1, none⟩ (.int .u64 t236)).setCell ⟨gb245, 2, none⟩ (.slice Ao61 t237.length co61)).setCell ⟨gb246, 0, none⟩ (.slice Ao62 t240.length co62)).setCell ⟨gb246, 1, none⟩ (.int .i64 t243))) := ⟨by repeat (first | (with_reducible first | exact HB.out | apply below_alloc | apply pw_below_drewN | apply below_drew1 | refine below_set ?_ GE228.out | refine below_set ?_ GE230.out | refine below_set ?_ GE233.out | refine below_set ?_ GE245.out | refine below_set ?_ GE246.out) | exact HB.out)⟩
              (try clear HO_12)
              (try clear HO_229002)
              (try clear HO_231000)
              (try clear HO239)
              (try clear HO242)
              (try clear BK228)
              (try clear BK230)
              (try clear BK233)
              (try clear BK245)
              (try clear BK246)
              (try clear HB)
              generalize (((((w55.setCell ⟨gb245, 0, none⟩ (.int .i64 t235)).setCell ⟨gb245, 1, none⟩ (.int .u64 t236)).setCell ⟨gb245, 2, none⟩ (.slice Ao61 t237.length co61)).setCell ⟨gb246, 0, none⟩ (.slice Ao62 t240.length co62)).setCell ⟨gb246, 1, none⟩ (.int .i64 t243)) = w67 at n0_ n1_ n2_ n3_ n4_ n5_ n6_ n7_ n8_ n9_ n10_ ⊢
              have HO_12 := n0_
              have HO_229002 := n1_
              have HO_231000 := n2_
              have HO239 := n3_
              have HO242 := n4_
              have BK228 := n5_
              have BK230 := n6_
              have BK233 := n7_
              have BK245 := n8_
              have BK246 := n9_
              have HB := n10_
              clear n0_ n1_ n2_ n3_ n4_ n5_ n6_ n7_ n8_ n9_ n10_
              have n0_ := Aside0.mk (Kd.R_drew HO_12.out)
              have n1_ := Aside0.mk (Kd.V_drew HO_229002.out)
              have n2_ := Aside0.mk (Kd.V_drew HO_231000.out)
              have n3_ := Aside0.mk (Kd.V_drew HO239.out)
              have n4_ := Aside0.mk (Kd.V_drew HO242.out)
              have n5_ := Aside0.mk (blk_drew BK228.out)
              have n6_ := Aside0.mk (blk_drew BK230.out)
              have n7_ := Aside0.mk (blk_drew BK233.out)
              have n8_ := Aside0.mk (blk_drew BK245.out)
              have n9_ := Aside0.mk (blk_drew BK246.out)
              have n10_ := Aside0.mk (below_drew1 HB.out)
              clear HO_12
              clear HO_229002
              clear HO_231000
              clear HO239
              clear HO242
              clear BK228
              clear BK230
              clear BK233
              clear BK245
              clear BK246
              clear HB
              have HO_12 := n0_
              have HO_229002 := n1_
              have HO_231000 := n2_
              have HO239 := n3_
              have HO242 := n4_
              have BK228 := n5_
              have BK230 := n6_
              have BK233 := n7_
              have BK245 := n8_
              have BK246 := n9_
              have HB := n10_
              clear n0_ n1_ n2_ n3_ n4_ n5_ n6_ n7_ n8_ n9_ n10_
              refine start_ (n := 15) (S := fun w' => w'.cell? ⟨gb245, 0, none⟩ = some (.int .i64 t235) ∧ w'.cell? ⟨gb245, 1, none⟩ = some (.int .u64 t236) ∧ w'.cell? ⟨gb245, 2, none⟩ = some (.slice Ao61 t237.length co61) ∧ w'.cell? ⟨gb246, 0, none⟩ = some (.slice Ao62 t240.length co62) ∧ w'.cell? ⟨gb246, 1, none⟩ = some (.int .i64 t243) ∧ w'.cell? ⟨gb233, 0, none⟩ = some (.string ((rd_T35 l1 x50_2).f0)) ∧ w'.cell? ⟨gb233, 1, none⟩ = some (.int .u64 ((rd_T35 l1 x50_2).f1))) (ds := []) #[false, false, false, false, false, false, false, false, false, false, false, false, false, false, false] (by kernel_rfl) rfl rfl ⟨(blk_cell BK245.out 0).trans rfl, (blk_cell BK245.out 1).trans rfl, (blk_cell BK245.out 2).trans rfl, (blk_cell BK246.out 0).trans rfl, (blk_cell BK246.out 1).trans rfl, (blk_cell BK233.out 0).trans rfl, (blk_cell BK233.out 1).trans rfl⟩ (fun hHeld => ?_); refine with_tabW samphirelaw17_SlotsHolds.tab16 samphirelaw17_SlotsHolds.bits16 (fun HT_ HW_ => ?_)
              generalize w67.drew = w68 at HO_12 HO_229002 HO_231000 HO239 HO242 BK228 BK230 BK233 BK245 BK246 HB hHeld ⊢
              refine pure_ (i := 2) (N := some 103) (v := ?_) (a' := ?_) #[false, false, true, false, false, false, false, false, false, false, false, false, false, false, false] rfl rfl (any_of HT_.out (by kernel_rfl)) (fun _ _ _ h => h) (Or.inl ⟨by rfl, ?_⟩) ?_ ?_
              rotate_left
              ·
               intro w'
               go_simp
               with_reducible rfl
              rotate_left
              ·
               simp only [Act.put, List.setIfInBounds_toArray, List.set_cons_zero, List.set_cons_succ, i64_w, i32_w]
               rfl
              refine pure_ (i := 3) (N := some 104) (v := ?_) (a' := ?_) #[false, false, true, true, false, false, false, false, false, false, false, false, false, false, false] rfl rfl (any_of HT_.out (by kernel_rfl)) (fun _ _ _ h => h) (Or.inl ⟨by rfl, ?_⟩) ?_ ?_
              rotate_left
              ·
               intro w'
               go_simp
               with_reducible rfl
              rotate_left
              ·
               simp only [Act.put, List.setIfInBounds_toArray, List.set_cons_zero, List.set_cons_succ, i64_w, i32_w]
               rfl
              refine pure_ (i := 6) (N := some 107) (v := ?_) (a' := ?_) #[false, false, true, true, false, false, true, false, false, false, false, false, false, false, false] rfl rfl (any_of HT_.out (by kernel_rfl)) (fun _ _ _ h => h) (Or.inl ⟨by rfl, ?_⟩) ?_ ?_
              rotate_left
              ·
               intro w'
               go_simp
               with_reducible rfl
              rotate_left
              ·
               simp only [Act.put, List.setIfInBounds_toArray, List.set_cons_zero, List.set_cons_succ, i64_w, i32_w]
               rfl
              refine pure_ (i := 7) (N := some 108) (v := ?_) (a' := ?_) #[false, false, true, true, false, false, true, true, false, false, false, false, false, false, false] rfl rfl (any_of HT_.out (by kernel_rfl)) (fun _ _ _ h => h) (Or.inl ⟨by rfl, ?_⟩) ?_ ?_
              rotate_left
              ·
               intro w'
               go_simp
               with_reducible rfl
              rotate_left
              ·
               simp only [Act.put, List.setIfInBounds_toArray, List.set_cons_zero, List.set_cons_succ, i64_w, i32_w]
               rfl
              refine take_ (i := 0) (N := some 101) (v := ?_) (a' := ?_) #[true, false, true, true, false, false, true, true, false, false, false, false, false, false, false] rfl rfl (take_ofW HT_.out HW_.out (by kernel_rfl)) (fun _ _ _ h => h) (Or.inl ⟨by rfl, ?_⟩) hHeld ?_ ?_
              rotate_left
              ·
               rintro w' ⟨s0, s1, s2, s3, s4, s5, s6⟩
               go_simp
               with_reducible rfl
              rotate_left
              ·
               simp only [Act.put, List.setIfInBounds_toArray, List.set_cons_zero, List.set_cons_succ, i64_w, i32_w]
               rfl
              refine take_ (i := 1) (N := some 102) (v := ?_) (a' := ?_) #[true, true, true, true, false, false, true, true, false, false, false, false, false, false, false] rfl rfl (take_ofW HT_.out HW_.out (by kernel_rfl)) (fun _ _ _ h => h) (Or.inl ⟨by rfl, ?_⟩) hHeld ?_ ?_
              rotate_left
              ·
               rintro w' ⟨s0, s1, s2, s3, s4, s5, s6⟩
               go_simp
               with_reducible rfl
              rotate_left
              ·
               simp only [Act.put, List.setIfInBounds_toArray, List.set_cons_zero, List.set_cons_succ, i64_w, i32_w]
               rfl
              refine take_ (i := 4) (N := some 105) (v := ?_) (a' := ?_) #[true, true, true, true, true, false, true, true, false, false, false, false, false, false, false] rfl rfl (take_ofW HT_.out HW_.out (by kernel_rfl)) (fun _ _ _ h => h) (Or.inl ⟨by rfl, ?_⟩) hHeld ?_ ?_
              rotate_left
              ·
               rintro w' ⟨s0, s1, s2, s3, s4, s5, s6⟩
               go_simp
               with_reducible rfl
              rotate_left
              ·
               simp only [Act.put, List.setIfInBounds_toArray, List.set_cons_zero, List.set_cons_succ, i64_w, i32_w]
               rfl
              refine pure_ (i := 5) (N := some 106) (v := ?_) (a' := ?_) #[true, true, true, true, true, true, true, true, false, false, false, false, false, false, false] rfl rfl (any_of HT_.out (by kernel_rfl)) (fun _ _ _ h => h) (Or.inl ⟨by rfl, ?_⟩) ?_ ?_
              rotate_left
              ·
               intro w'
               go_simp
               with_reducible rfl
              rotate_left
              ·
               simp only [Act.put, List.setIfInBounds_toArray, List.set_cons_zero, List.set_cons_succ, i64_w, i32_w]
               rfl
              refine take_ (i := 8) (N := some 109) (v := ?_) (a' := ?_) #[true, true, true, true, true, true, true, true, true, false, false, false, false, false, false] rfl rfl (take_ofW HT_.out HW_.out (by kernel_rfl)) (fun _ _ _ h => h) (Or.inl ⟨by rfl, ?_⟩) hHeld ?_ ?_
              rotate_left
              ·
               rintro w' ⟨s0, s1, s2, s3, s4, s5, s6⟩
               go_simp
               with_reducible rfl
              rotate_left
              ·
               simp only [Act.put, List.setIfInBounds_toArray, List.set_cons_zero, List.set_cons_succ, i64_w, i32_w]
               rfl
              refine one_ (i := 9) (N := some 110) #[true, true, true, true, true, true, true, true, true, true, false, false, false, false, false] rfl rfl (one_of HT_.out (by kernel_rfl)) (by decide) (fun K hK => ?_)
              refine value_ (w1 := ?_) (v := ?_) (by rfl) rfl ?_ ?_
              rotate_left 2
              ·
               go_simp
               constructor
               ·
                rfl
               ·
                rfl
              refine hK.out _ _ ⟨(blk_cell (blk_alloc BK245.out _) 0).trans rfl, (blk_cell (blk_alloc BK245.out _) 1).trans rfl, (blk_cell (blk_alloc BK245.out _) 2).trans rfl, (blk_cell (blk_alloc BK246.out _) 0).trans rfl, (blk_cell (blk_alloc BK246.out _) 1).trans rfl, (blk_cell (blk_alloc BK233.out _) 0).trans rfl, (blk_cell (blk_alloc BK233.out _) 1).trans rfl⟩ (fun hHeld => ?_)
              clear hK K
              refine norm_ (a' := ?_) ?_ ?_
              rotate_left
              ·
               show Act.put _ (some 110) _ = _
               simp only [Act.put, List.setIfInBounds_toArray, List.set_cons_zero, List.set_cons_succ, i64_w, i32_w]
               rfl
              refine one_ (i := 10) (N := some 111) #[true, true, true, true, true, true, true, true, true, true, true, false, false, false, false] rfl rfl (one_of HT_.out (by kernel_rfl)) (by decide) (fun K hK => ?_)
              refine Kd.R_append_step Kd.string (w0 := w) w.heap.size (by rfl) (.tmp 107) (.tmp 110) 25 9 (.string ⟨#[]⟩) 16 rfl Try.underlying25 info9 rfl (by decide) (by omega) u12 x12_2 ((rd_T35 l1 x50_2).f0) [.string ((rd_T35 l1 x50_2).f0)] (fun k_ => (w.heap.size ≤ k_)) (fun _ => False) rfl rfl ?aP (fun _ hk => hk.elim) ?aF ?aO ?aB ?aS ?aL ?_
              (case aP => exact rfl)
              (case aB => exact (by repeat (first | (with_reducible first | exact HB.out | apply below_alloc | apply pw_below_drewN | apply below_drew1 | refine below_set ?_ GE228.out | refine below_set ?_ GE230.out | refine below_set ?_ GE233.out | refine below_set ?_ GE245.out | refine below_set ?_ GE246.out) | exact HB.out)))
              (case aF => exact (fun k_ hk => (Nat.le_trans (below_size (by repeat (first | (with_reducible first | exact HB.out | apply below_alloc | apply pw_below_drewN | apply below_drew1 | refine below_set ?_ GE228.out | refine below_set ?_ GE230.out | refine below_set ?_ GE233.out | refine below_set ?_ GE245.out | refine below_set ?_ GE246.out) | exact HB.out))) hk)))
              (case aO => exact (by (with_reducible repeat (first | apply Kd.R_alloc | apply Kd.R_drewN | apply Kd.R_drew)); exact HO_12.out))
              (case aS => exact (below_size (by repeat (first | (with_reducible first | exact HB.out | apply below_alloc | apply pw_below_drewN | apply below_drew1 | refine below_set ?_ GE228.out | refine below_set ?_ GE230.out | refine below_set ?_ GE233.out | refine below_set ?_ GE245.out | refine below_set ?_ GE246.out) | exact HB.out))))
              (case aL => have := LMc43.out; omega)
              intro v260 w69 ho hb hg hat
              rw [← Ny259.out] at ho
              have n0_ := Aside0.mk (Kd.V_afterv (ok := (fun k_ => (P2_ k_ ∨ w.heap.size ≤ k_) ∧ k_ ≠ gb228 ∧ k_ ≠ gb230 ∧ k_ ≠ gb233 ∧ k_ ≠ gb245 ∧ k_ ≠ gb246)) (by (with_reducible repeat (first | apply Kd.V_alloc | apply Kd.V_drewN | apply Kd.V_drew)); exact Kd.V_mono HO_229002.out (fun _ hk => ⟨⟨hk.1, ⟨hk.2.2.1, ⟨hk.2.2.2.1, ⟨hk.2.2.2.2.1, ⟨hk.2.2.2.2.2.1, hk.2.2.2.2.2.2⟩⟩⟩⟩⟩, hk.2.1⟩)) hg hat)
              have n1_ := Aside0.mk (Kd.V_afterv (ok := (fun k_ => (P2_ k_ ∨ w.heap.size ≤ k_) ∧ k_ ≠ gb228 ∧ k_ ≠ gb230 ∧ k_ ≠ gb233 ∧ k_ ≠ gb245 ∧ k_ ≠ gb246)) (by (with_reducible repeat (first | apply Kd.V_alloc | apply Kd.V_drewN | apply Kd.V_drew)); exact Kd.V_mono HO_231000.out (fun _ hk => ⟨⟨hk.1, ⟨hk.2.2.1, ⟨hk.2.2.2.1, ⟨hk.2.2.2.2.1, ⟨hk.2.2.2.2.2.1, hk.2.2.2.2.2.2⟩⟩⟩⟩⟩, hk.2.1⟩)) hg hat)
              have n2_ := Aside0.mk (blk_grown (g := gb228) (o := .cells #[.int .i64 x229000_2, .int .u64 x229001_2, .slice Ao51 x229002_2.length co51] 27 (0, 0)) (by (with_reducible repeat (first | refine blk_drewN ?_ _ | refine blk_drew ?_ | refine blk_alloc ?_ _)); exact BK228.out) hg (Kd.R_ne HO_12.out BK228.out (by decide)))
              have n3_ := Aside0.mk (blk_grown (g := gb230) (o := .cells #[.slice Ao52 x231000_2.length co52, .int .i64 x231001_2] 33 (0, 0)) (by (with_reducible repeat (first | refine blk_drewN ?_ _ | refine blk_drew ?_ | refine blk_alloc ?_ _)); exact BK230.out) hg (Kd.R_ne HO_12.out BK230.out (by decide)))
              have n4_ := Aside0.mk (blk_grown (g := gb233) (o := .cells #[.string ((rd_T35 l1 x50_2).f0), .int .u64 ((rd_T35 l1 x50_2).f1)] 35 (0, 0)) (by (with_reducible repeat (first | refine blk_drewN ?_ _ | refine blk_drew ?_ | refine blk_alloc ?_ _)); exact BK233.out) hg (Kd.R_ne HO_12.out BK233.out (by decide)))
              have n5_ := Aside0.mk (Kd.V_afterv (ok := (fun k_ => (P2_ k_ ∨ w.heap.size ≤ k_) ∧ k_ ≠ gb228 ∧ k_ ≠ gb230 ∧ k_ ≠ gb233 ∧ k_ ≠ gb245 ∧ k_ ≠ gb246)) (by (with_reducible repeat (first | apply Kd.V_alloc | apply Kd.V_drewN | apply Kd.V_drew)); exact Kd.V_mono HO239.out (fun _ hk => ⟨⟨hk.1, ⟨hk.2.2.1, ⟨hk.2.2.2.1, ⟨hk.2.2.2.2.1, ⟨hk.2.2.2.2.2.1, hk.2.2.2.2.2.2⟩⟩⟩⟩⟩, hk.2.1⟩)) hg hat)
              have n6_ := Aside0.mk (Kd.V_afterv (ok := (fun k_ => (P2_ k_ ∨ w.heap.size ≤ k_) ∧ k_ ≠ gb228 ∧ k_ ≠ gb230 ∧ k_ ≠ gb233 ∧ k_ ≠ gb245 ∧ k_ ≠ gb246)) (by (with_reducible repeat (first | apply Kd.V_alloc | apply Kd.V_drewN | apply Kd.V_drew)); exact Kd.V_mono HO242.out (fun _ hk => ⟨⟨hk.1, ⟨hk.2.2.1, ⟨hk.2.2.2.1, ⟨hk.2.2.2.2.1, ⟨hk.2.2.2.2.2.1, hk.2.2.2.2.2.2⟩⟩⟩⟩⟩, hk.2.1⟩)) hg hat)
              have n7_ := Aside0.mk (blk_grown (g := gb245) (o := .cells #[.int .i64 t235, .int .u64 t236, .slice Ao61 t237.length co61] 27 (0, 0)) (by (with_reducible repeat (first | refine blk_drewN ?_ _ | refine blk_drew ?_ | refine blk_alloc ?_ _)); exact BK245.out) hg (Kd.R_ne HO_12.out BK245.out (by decide)))
              have n8_ := Aside0.mk (blk_grown (g := gb246) (o := .cells #[.slice Ao62 t240.length co62, .int .i64 t243] 33 (0, 0)) (by (with_reducible repeat (first | refine blk_drewN ?_ _ | refine blk_drew ?_ | refine blk_alloc ?_ _)); exact BK246.out) hg (Kd.R_ne HO_12.out BK246.out (by decide)))
              have n9_ := Aside0.mk (hb)
              have n10_ := Aside0.mk (ho)
              clear HO_229002
              clear HO_231000
              clear BK228
              clear BK230
              clear BK233
              clear HO239
              clear HO242
              clear BK245
              clear BK246
              clear HB
              clear HO_12
              have HO_229002 := n0_
              have HO_231000 := n1_
              have BK228 := n2_
              have BK230 := n3_
              have BK233 := n4_
              have HO239 := n5_
              have HO242 := n6_
              have BK245 := n7_
              have BK246 := n8_
              have HB := n9_
              have HO261 := n10_
              clear n0_ n1_ n2_ n3_ n4_ n5_ n6_ n7_ n8_ n9_ n10_
              clear ho hb hg hat
              refine hK.out _ _ ⟨(blk_cell BK245.out 0).trans rfl, (blk_cell BK245.out 1).trans rfl, (blk_cell BK245.out 2).trans rfl, (blk_cell BK246.out 0).trans rfl, (blk_cell BK246.out 1).trans rfl, (blk_cell BK233.out 0).trans rfl, (blk_cell BK233.out 1).trans rfl⟩ (fun hHeld => ?_)
              clear hK K
              refine norm_ (a' := ?_) ?_ ?_
              rotate_left
              ·
               show Act.put _ (some 111) _ = _
               simp only [Act.put, List.setIfInBounds_toArray, List.set_cons_zero, List.set_cons_succ, i64_w, i32_w]
               rfl
              refine one_ (i := 11) (N := none) #[true, true, true, true, true, true, true, true, true, true, true, true, false, false, false] rfl rfl (one_of HT_.out (by kernel_rfl)) (by decide) (fun K hK => ?_)
              have hs70 : w69.cell? ⟨gb228, 0, none⟩ = some (.int .i64 x229000_2) := (blk_cell BK228.out 0).trans rfl
              have hfs70 := blk_frozen BK228.out 0
              have hns70_1 := NB230_228.out
              have hns70_2 := NB233_228.out
              have hns70_3 := NB245_228.out
              have hns70_4 := NB246_228.out
              have hms70_1 := NB228_230.out
              have hms70_2 := NB228_233.out
              have hms70_3 := NB228_245.out
              have hms70_4 := NB228_246.out
              have hs71 : w69.cell? ⟨gb228, 1, none⟩ = some (.int .u64 x229001_2) := (blk_cell BK228.out 1).trans rfl
              have hfs71 := blk_frozen BK228.out 1
              have hns71_1 := NB230_228.out
              have hns71_2 := NB233_228.out
              have hns71_3 := NB245_228.out
              have hns71_4 := NB246_228.out
              have hms71_1 := NB228_230.out
              have hms71_2 := NB228_233.out
              have hms71_3 := NB228_245.out
              have hms71_4 := NB228_246.out
              have hs72 : w69.cell? ⟨gb228, 2, none⟩ = some (.slice Ao51 x229002_2.length co51) := (blk_cell BK228.out 2).trans rfl
              have hfs72 := blk_frozen BK228.out 2
              have hns72_1 := NB230_228.out
              have hns72_2 := NB233_228.out
              have hns72_3 := NB245_228.out
              have hns72_4 := NB246_228.out
              have hms72_1 := NB228_230.out
              have hms72_2 := NB228_233.out
              have hms72_3 := NB228_245.out
              have hms72_4 := NB228_246.out
              refine skip_ (w1 := ?_) (by rfl) rfl ?_ ?_
              rotate_left
              ·
               go_simp
               rfl
              refine hK.out _ _ ⟨((cell_far (p := ⟨gb228, _, none⟩) NB245_228.out _).trans (((cell_far (p := ⟨gb228, _, none⟩) NB245_228.out _).trans (((cell_far (p := ⟨gb228, _, none⟩) NB245_228.out _).trans (hHeld.1)))))), ((cell_far (p := ⟨gb228, _, none⟩) NB245_228.out _).trans (((cell_far (p := ⟨gb228, _, none⟩) NB245_228.out _).trans (((cell_far (p := ⟨gb228, _, none⟩) NB245_228.out _).trans (hHeld.2.1)))))), ((cell_far (p := ⟨gb228, _, none⟩) NB245_228.out _).trans (((cell_far (p := ⟨gb228, _, none⟩) NB245_228.out _).trans (((cell_far (p := ⟨gb228, _, none⟩) NB245_228.out _).trans (hHeld.2.2.1)))))), ((cell_far (p := ⟨gb228, _, none⟩) NB246_228.out _).trans (((cell_far (p := ⟨gb228, _, none⟩) NB246_228.out _).trans (((cell_far (p := ⟨gb228, _, none⟩) NB246_228.out _).trans (hHeld.2.2.2.1)))))), ((cell_far (p := ⟨gb228, _, none⟩) NB246_228.out _).trans (((cell_far (p := ⟨gb228, _, none⟩) NB246_228.out _).trans (((cell_far (p := ⟨gb228, _, none⟩) NB246_228.out _).trans (hHeld.2.2.2.2.1)))))), ((cell_far (p := ⟨gb228, _, none⟩) NB233_228.out _).trans (((cell_far (p := ⟨gb228, _, none⟩) NB233_228.out _).trans (((cell_far (p := ⟨gb228, _, none⟩) NB233_228.out _).trans (hHeld.2.2.2.2.2.1)))))), ((cell_far (p := ⟨gb228, _, none⟩) NB233_228.out _).trans (((cell_far (p := ⟨gb228, _, none⟩) NB233_228.out _).trans (((cell_far (p := ⟨gb228, _, none⟩) NB233_228.out _).trans (hHeld.2.2.2.2.2.2))))))⟩ (fun hHeld => ?_)
              clear hK K
              refine one_ (i := 12) (N := none) #[true, true, true, true, true, true, true, true, true, true, true, true, true, false, false] rfl rfl (one_of HT_.out (by kernel_rfl)) (by decide) (fun K hK => ?_)
              have hs73 : w69.cell? ⟨gb230, 0, none⟩ = some (.slice Ao52 x231000_2.length co52) := (blk_cell BK230.out 0).trans rfl
              have hfs73 := blk_frozen BK230.out 0
              have hns73_0 := NB228_230.out
              have hns73_2 := NB233_230.out
              have hns73_3 := NB245_230.out
              have hns73_4 := NB246_230.out
              have hms73_0 := NB230_228.out
              have hms73_2 := NB230_233.out
              have hms73_3 := NB230_245.out
              have hms73_4 := NB230_246.out
              have hs74 : w69.cell? ⟨gb230, 1, none⟩ = some (.int .i64 x231001_2) := (blk_cell BK230.out 1).trans rfl
              have hfs74 := blk_frozen BK230.out 1
              have hns74_0 := NB228_230.out
              have hns74_2 := NB233_230.out
              have hns74_3 := NB245_230.out
              have hns74_4 := NB246_230.out
              have hms74_0 := NB230_228.out
              have hms74_2 := NB230_233.out
              have hms74_3 := NB230_245.out
              have hms74_4 := NB230_246.out
              refine skip_ (w1 := ?_) (by rfl) rfl ?_ ?_
              rotate_left
              ·
               go_simp
               rfl
              refine hK.out _ _ ⟨((cell_far (p := ⟨gb230, _, none⟩) NB245_230.out _).trans (((cell_far (p := ⟨gb230, _, none⟩) NB245_230.out _).trans (hHeld.1)))), ((cell_far (p := ⟨gb230, _, none⟩) NB245_230.out _).trans (((cell_far (p := ⟨gb230, _, none⟩) NB245_230.out _).trans (hHeld.2.1)))), ((cell_far (p := ⟨gb230, _, none⟩) NB245_230.out _).trans (((cell_far (p := ⟨gb230, _, none⟩) NB245_230.out _).trans (hHeld.2.2.1)))), ((cell_far (p := ⟨gb230, _, none⟩) NB246_230.out _).trans (((cell_far (p := ⟨gb230, _, none⟩) NB246_230.out _).trans (hHeld.2.2.2.1)))), ((cell_far (p := ⟨gb230, _, none⟩) NB246_230.out _).trans (((cell_far (p := ⟨gb230, _, none⟩) NB246_230.out _).trans (hHeld.2.2.2.2.1)))), ((cell_far (p := ⟨gb230, _, none⟩) NB233_230.out _).trans (((cell_far (p := ⟨gb230, _, none⟩) NB233_230.out _).trans (hHeld.2.2.2.2.2.1)))), ((cell_far (p := ⟨gb230, _, none⟩) NB233_230.out _).trans (((cell_far (p := ⟨gb230, _, none⟩) NB233_230.out _).trans (hHeld.2.2.2.2.2.2))))⟩ (fun hHeld => ?_)
              clear hK K
              refine pure_ (i := 13) (N := some 11) (v := ?_) (a' := ?_) #[true, true, true, true, true, true, true, true, true, true, true, true, true, true, false] rfl rfl (any_of HT_.out (by kernel_rfl)) (fun _ _ _ h => h) (Or.inl ⟨by rfl, ?_⟩) ?_ ?_
              rotate_left
              ·
               intro w'
               go_simp
               with_reducible rfl
              rotate_left
              ·
               simp only [Act.put, List.setIfInBounds_toArray, List.set_cons_zero, List.set_cons_succ, i64_w, i32_w]
               rfl
              refine pure_ (i := 14) (N := some 12) (v := ?_) (a' := ?_) #[true, true, true, true, true, true, true, true, true, true, true, true, true, true, true] rfl rfl (any_of HT_.out (by kernel_rfl)) (fun _ _ _ h => h) (Or.inl ⟨by rfl, ?_⟩) ?_ ?_
              rotate_left
              ·
               intro w'
               go_simp
               with_reducible rfl
              rotate_left
              ·
               simp only [Act.put, List.setIfInBounds_toArray, List.set_cons_zero, List.set_cons_succ, i64_w, i32_w]
               rfl
              refine done_ (done_of HT_.out (by kernel_rfl)) ?_
              go_upto_region 17 with (fail)
              go_cut [127] (fun v127 wc => ∃ (kq : Nat) (x127_43 : Bool), v127 = .bool x127_43 ∧ Aside0 (samphirelaw17_SlotsHolds.j3 kq (wrap64 (1 + (wrap64 (Int.tmod a0 10)))) (IntKind.u64.wrap (x11_2 + ((rd_T35 l1 x50_2).f1))) y259 l1 (l1.length : Int) x50_2 x127_43 t235 t236 t237 t240 t243 = some r) ∧ Aside0 (kq ≤ kj21) ∧ Aside0 (Kd.R Kd.string 9 wc w.heap.size (fun k_ => (w.heap.size ≤ k_)) v260 y259) ∧ Aside0 (Kd.V Kd.string 9 wc w.heap.size (fun k_ => (P2_ k_ ∨ w.heap.size ≤ k_) ∧ some k_ ≠ (v260 : Value).ownBlock ∧ k_ ≠ gb228 ∧ k_ ≠ gb230 ∧ k_ ≠ gb233 ∧ k_ ≠ gb245 ∧ k_ ≠ gb246) (.slice Ao61 t237.length co61) t237) ∧ Aside0 (Kd.V (Kd.int .u64) 24 wc w.heap.size (fun k_ => (P2_ k_ ∨ w.heap.size ≤ k_) ∧ some k_ ≠ (v260 : Value).ownBlock ∧ k_ ≠ gb228 ∧ k_ ≠ gb230 ∧ k_ ≠ gb233 ∧ k_ ≠ gb245 ∧ k_ ≠ gb246) (.slice Ao62 t240.length co62) t240) ∧ Aside0 (Kd.V Kd.string 9 wc w.heap.size (fun k_ => (P2_ k_ ∨ w.heap.size ≤ k_) ∧ some k_ ≠ (v260 : Value).ownBlock ∧ k_ ≠ gb228 ∧ k_ ≠ gb230 ∧ k_ ≠ gb233 ∧ k_ ≠ gb245 ∧ k_ ≠ gb246) (.slice Ao61 t237.length co61) t237) ∧ Aside0 (Kd.V (Kd.int .u64) 24 wc w.heap.size (fun k_ => (P2_ k_ ∨ w.heap.size ≤ k_) ∧ some k_ ≠ (v260 : Value).ownBlock ∧ k_ ≠ gb228 ∧ k_ ≠ gb230 ∧ k_ ≠ gb233 ∧ k_ ≠ gb245 ∧ k_ ≠ gb246) (.slice Ao62 t240.length co62) t240) ∧ Aside0 (wc.heap[gb228]? = some (.cells #[.int .i64 t235, .int .u64 t236, (.slice Ao61 t237.length co61)] 27 (0, 0))) ∧ Aside0 (wc.heap[gb230]? = some (.cells #[(.slice Ao62 t240.length co62), .int .i64 t243] 33 (0, 0))) ∧ Aside0 (wc.heap[gb233]? = some (.cells #[.string ((rd_T35 l1 x50_2).f0), .int .u64 ((rd_T35 l1 x50_2).f1)] 35 (0, 0))) ∧ Aside0 (wc.heap[gb245]? = some (.cells #[.int .i64 t235, .int .u64 t236, (.slice Ao61 t237.length co61)] 27 (0, 0))) ∧ Aside0 (wc.heap[gb246]? = some (.cells #[(.slice Ao62 t240.length co62), .int .i64 t243] 33 (0, 0))) ∧ Aside0 (Below w.heap.size w wc))
              case first =>
               have H := HC44.out
               clear HC44
               by_cases c75 : t236 = (IntKind.u64.wrap (x11_2 + ((rd_T35 l1 x50_2).f1)))
               ·
                rw [if_pos c75] at H
                have c75b0 : (t236 == (IntKind.u64.wrap (x11_2 + ((rd_T35 l1 x50_2).f1)))) = true := beq_iff_eq.mpr c75
                have c75b1 : (t236 != (IntKind.u64.wrap (x11_2 + ((rd_T35 l1 x50_2).f1)))) = false := bne_eq_false_iff_eq.mpr c75
                clear c75
                (first | rw [c75b0] | (simp only [i64_w, i32_w]; rw [c75b0]) | skip)
                by_cases c76 : (t237.length : Int) = (wrap64 (1 + (wrap64 (Int.tmod a0 10))))
                ·
                 rw [if_pos c76] at H
                 have c76b0 : ((t237.length : Int) == (wrap64 (1 + (wrap64 (Int.tmod a0 10))))) = true := beq_iff_eq.mpr c76
                 have c76b1 : ((t237.length : Int) != (wrap64 (1 + (wrap64 (Int.tmod a0 10))))) = false := bne_eq_false_iff_eq.mpr c76
                 clear c76
                 replace H := Option.bind_eq_some_iff.mp H
                 obtain ⟨t262, A770, H⟩ := H
                 replace H : (samphirelaw17_SlotsHolds.j3 kj21 (wrap64 (1 + (wrap64 (Int.tmod a0 10)))) (IntKind.u64.wrap (x11_2 + ((rd_T35 l1 x50_2).f1))) y259 l1 (l1.length : Int) x50_2 (!t262) t235 t236 t237 t240 t243) = some r := H
                 have A77 := Aside0.mk A770
                 clear A770
                 have H' := Aside0.mk H
                 clear H
                 have hnb78 := NB228_230.out
                 have hnc78 := NB230_228.out
                 have hnb79 := NB228_233.out
                 have hnc79 := NB233_228.out
                 have hnb80 := NB228_245.out
                 have hnc80 := NB245_228.out
                 have hnb81 := NB228_246.out
                 have hnc81 := NB246_228.out
                 have hcz82_0 : w69.cell? ⟨gb228, 0, none⟩ = some (.int .i64 x229000_2) := (blk_cell BK228.out 0).trans rfl
                 have hcz82_1 : w69.cell? ⟨gb228, 1, none⟩ = some (.int .u64 x229001_2) := (blk_cell BK228.out 1).trans rfl
                 have hcz82_2 : w69.cell? ⟨gb228, 2, none⟩ = some (.slice Ao51 x229002_2.length co51) := (blk_cell BK228.out 2).trans rfl
                 have hfz82_0 := blk_frozen BK228.out 0
                 have hfz82_1 := blk_frozen BK228.out 1
                 have hfz82_2 := blk_frozen BK228.out 2
                 go_wp2_with (first | (go_at_call 13; (with_reducible refine (slots_Right.calls t235 t236 _ _ t237 t262 _ ?side1 ?side2 A77.out).mono ?_); (case side1 => refine (Kd.V_reads' (e := 9) (base := w.heap.size) (ok := fun k_ => (((P2_ k_ ∨ w.heap.size ≤ k_) ∧ (k_ ≠ gb228 ∧ (k_ ≠ gb230 ∧ (k_ ≠ gb233 ∧ (k_ ≠ gb245 ∧ k_ ≠ gb246))))) ∧ some k_ ≠ (v260 : Value).ownBlock)) (n := t237.length) (c := co61) ?_).2.2; exact (by (with_reducible repeat (first | apply Kd.V_alloc | apply Kd.V_drewN | apply Kd.V_drew)); exact (Kd.V_mono (Kd.V_mono (Kd.V_far (p := ⟨gb230, 1, none⟩) (Kd.V_far (p := ⟨gb230, 0, none⟩) (Kd.V_far (p := ⟨gb228, 2, none⟩) (Kd.V_far (p := ⟨gb228, 1, none⟩) (Kd.V_far (p := ⟨gb228, 0, none⟩) (Kd.V_mono (Kd.V_mono HO239.out (fun k_ hk => (⟨hk, hk.1.2.1⟩ : _ ∧ k_ ≠ gb228))) (fun k_ hk => (⟨hk, hk.1.1.2.2.1⟩ : _ ∧ k_ ≠ gb230))) (fun _ hk => hk.1.2) (.int .i64 t235)) (fun _ hk => hk.1.2) (.int .u64 t236)) (fun _ hk => hk.1.2) (.slice Ao61 t237.length co61)) (fun _ hk => hk.2) (.slice Ao62 t240.length co62)) (fun _ hk => hk.2) (.int .i64 t243)) (fun _ h_ => h_.1)) (fun _ h_ => h_.1)))); (case side2 => exact (Kd.V_reads' HO239.out).2.1); rintro e w83 ⟨rfl, hb⟩; have n0_ := Aside0.mk (Kd.V_below (by (with_reducible repeat (first | apply Kd.V_alloc | apply Kd.V_drewN | apply Kd.V_drew)); exact (Kd.V_mono (Kd.V_mono (Kd.V_far (p := ⟨gb230, 1, none⟩) (Kd.V_far (p := ⟨gb230, 0, none⟩) (Kd.V_far (p := ⟨gb228, 2, none⟩) (Kd.V_far (p := ⟨gb228, 1, none⟩) (Kd.V_far (p := ⟨gb228, 0, none⟩) (Kd.V_mono (Kd.V_mono HO_229002.out (fun k_ hk => (⟨hk, hk.1.2.1⟩ : _ ∧ k_ ≠ gb228))) (fun k_ hk => (⟨hk, hk.1.1.2.2.1⟩ : _ ∧ k_ ≠ gb230))) (fun _ hk => hk.1.2) (.int .i64 t235)) (fun _ hk => hk.1.2) (.int .u64 t236)) (fun _ hk => hk.1.2) (.slice Ao61 t237.length co61)) (fun _ hk => hk.2) (.slice Ao62 t240.length co62)) (fun _ hk => hk.2) (.int .i64 t243)) (fun _ h_ => h_.1)) (fun _ h_ => h_.1))) hb); have n1_ := Aside0.mk (Kd.V_below (by (with_reducible repeat (first | apply Kd.V_alloc | apply Kd.V_drewN | apply Kd.V_drew)); exact (Kd.V_mono (Kd.V_mono (Kd.V_far (p := ⟨gb230, 1, none⟩) (Kd.V_far (p := ⟨gb230, 0, none⟩) (Kd.V_far (p := ⟨gb228, 2, none⟩) (Kd.V_far (p := ⟨gb228, 1, none⟩) (Kd.V_far (p := ⟨gb228, 0, none⟩) (Kd.V_mono (Kd.V_mono HO_231000.out (fun k_ hk => (⟨hk, hk.1.2.1⟩ : _ ∧ k_ ≠ gb228))) (fun k_ hk => (⟨hk, hk.1.1.2.2.1⟩ : _ ∧ k_ ≠ gb230))) (fun _ hk => hk.1.2) (.int .i64 t235)) (fun _ hk => hk.1.2) (.int .u64 t236)) (fun _ hk => hk.1.2) (.slice Ao61 t237.length co61)) (fun _ hk => hk.2) (.slice Ao62 t240.length co62)) (fun _ hk => hk.2) (.int .i64 t243)) (fun _ h_ => h_.1)) (fun _ h_ => h_.1))) hb); have n2_ := Aside0.mk (Kd.V_below (by (with_reducible repeat (first | apply Kd.V_alloc | apply Kd.V_drewN | apply Kd.V_drew)); exact (Kd.V_mono (Kd.V_mono (Kd.V_far (p := ⟨gb230, 1, none⟩) (Kd.V_far (p := ⟨gb230, 0, none⟩) (Kd.V_far (p := ⟨gb228, 2, none⟩) (Kd.V_far (p := ⟨gb228, 1, none⟩) (Kd.V_far (p := ⟨gb228, 0, none⟩) (Kd.V_mono (Kd.V_mono HO239.out (fun k_ hk => (⟨hk, hk.1.2.1⟩ : _ ∧ k_ ≠ gb228))) (fun k_ hk => (⟨hk, hk.1.1.2.2.1⟩ : _ ∧ k_ ≠ gb230))) (fun _ hk => hk.1.2) (.int .i64 t235)) (fun _ hk => hk.1.2) (.int .u64 t236)) (fun _ hk => hk.1.2) (.slice Ao61 t237.length co61)) (fun _ hk => hk.2) (.slice Ao62 t240.length co62)) (fun _ hk => hk.2) (.int .i64 t243)) (fun _ h_ => h_.1)) (fun _ h_ => h_.1))) hb); have n3_ := Aside0.mk (Kd.V_below (by (with_reducible repeat (first | apply Kd.V_alloc | apply Kd.V_drewN | apply Kd.V_drew)); exact (Kd.V_mono (Kd.V_mono (Kd.V_far (p := ⟨gb230, 1, none⟩) (Kd.V_far (p := ⟨gb230, 0, none⟩) (Kd.V_far (p := ⟨gb228, 2, none⟩) (Kd.V_far (p := ⟨gb228, 1, none⟩) (Kd.V_far (p := ⟨gb228, 0, none⟩) (Kd.V_mono (Kd.V_mono HO242.out (fun k_ hk => (⟨hk, hk.1.2.1⟩ : _ ∧ k_ ≠ gb228))) (fun k_ hk => (⟨hk, hk.1.1.2.2.1⟩ : _ ∧ k_ ≠ gb230))) (fun _ hk => hk.1.2) (.int .i64 t235)) (fun _ hk => hk.1.2) (.int .u64 t236)) (fun _ hk => hk.1.2) (.slice Ao61 t237.length co61)) (fun _ hk => hk.2) (.slice Ao62 t240.length co62)) (fun _ hk => hk.2) (.int .i64 t243)) (fun _ h_ => h_.1)) (fun _ h_ => h_.1))) hb); have n4_ := Aside0.mk (Kd.R_below (by (with_reducible repeat (first | apply Kd.R_alloc | apply Kd.R_drewN | apply Kd.R_drew)); exact (Kd.R_mono (Kd.R_mono (Kd.R_far (p := ⟨gb230, 1, none⟩) (Kd.R_far (p := ⟨gb230, 0, none⟩) (Kd.R_far (p := ⟨gb228, 2, none⟩) (Kd.R_far (p := ⟨gb228, 1, none⟩) (Kd.R_far (p := ⟨gb228, 0, none⟩) (Kd.R_types (Kd.R_types HO261.out BK228.out (by decide)) BK230.out (by decide)) (fun _ hk => hk.1.2) (.int .i64 t235)) (fun _ hk => hk.1.2) (.int .u64 t236)) (fun _ hk => hk.1.2) (.slice Ao61 t237.length co61)) (fun _ hk => hk.2) (.slice Ao62 t240.length co62)) (fun _ hk => hk.2) (.int .i64 t243)) (fun _ h_ => h_.1)) (fun _ h_ => h_.1))) hb); have n5_ := Aside0.mk (blk_below (g := gb228) (o := .cells #[.int .i64 t235, .int .u64 t236, .slice Ao61 t237.length co61] 27 (0, 0)) (by (with_reducible repeat (first | refine blk_drewN ?_ _ | refine blk_drew ?_ | refine blk_alloc ?_ _)); refine blk_far ?_ NB228_230.out _; (with_reducible repeat (first | refine blk_drewN ?_ _ | refine blk_drew ?_ | refine blk_alloc ?_ _)); refine blk_far ?_ NB228_230.out _; (with_reducible repeat (first | refine blk_drewN ?_ _ | refine blk_drew ?_ | refine blk_alloc ?_ _)); refine blk_put (cs := #[.int .i64 t235, .int .u64 t236, .slice Ao51 x229002_2.length co51]) ?_ 2 _ rfl; (with_reducible repeat (first | refine blk_drewN ?_ _ | refine blk_drew ?_ | refine blk_alloc ?_ _)); refine blk_put (cs := #[.int .i64 t235, .int .u64 x229001_2, .slice Ao51 x229002_2.length co51]) ?_ 1 _ rfl; (with_reducible repeat (first | refine blk_drewN ?_ _ | refine blk_drew ?_ | refine blk_alloc ?_ _)); refine blk_put (cs := #[.int .i64 x229000_2, .int .u64 x229001_2, .slice Ao51 x229002_2.length co51]) ?_ 0 _ rfl; (with_reducible repeat (first | refine blk_drewN ?_ _ | refine blk_drew ?_ | refine blk_alloc ?_ _)); exact BK228.out) hb); have n6_ := Aside0.mk (blk_below (g := gb230) (o := .cells #[.slice Ao62 t240.length co62, .int .i64 t243] 33 (0, 0)) (by (with_reducible repeat (first | refine blk_drewN ?_ _ | refine blk_drew ?_ | refine blk_alloc ?_ _)); refine blk_put (cs := #[.slice Ao62 t240.length co62, .int .i64 x231001_2]) ?_ 1 _ rfl; (with_reducible repeat (first | refine blk_drewN ?_ _ | refine blk_drew ?_ | refine blk_alloc ?_ _)); refine blk_put (cs := #[.slice Ao52 x231000_2.length co52, .int .i64 x231001_2]) ?_ 0 _ rfl; (with_reducible repeat (first | refine blk_drewN ?_ _ | refine blk_drew ?_ | refine blk_alloc ?_ _)); refine blk_far ?_ NB230_228.out _; (with_reducible repeat (first | refine blk_drewN ?_ _ | refine blk_drew ?_ | refine blk_alloc ?_ _)); refine blk_far ?_ NB230_228.out _; (with_reducible repeat (first | refine blk_drewN ?_ _ | refine blk_drew ?_ | refine blk_alloc ?_ _)); refine blk_far ?_ NB230_228.out _; (with_reducible repeat (first | refine blk_drewN ?_ _ | refine blk_drew ?_ | refine blk_alloc ?_ _)); exact BK230.out) hb); have n7_ := Aside0.mk (blk_below (g := gb233) (o := .cells #[.string ((rd_T35 l1 x50_2).f0), .int .u64 ((rd_T35 l1 x50_2).f1)] 35 (0, 0)) (by (with_reducible repeat (first | refine blk_drewN ?_ _ | refine blk_drew ?_ | refine blk_alloc ?_ _)); refine blk_far ?_ NB233_230.out _; (with_reducible repeat (first | refine blk_drewN ?_ _ | refine blk_drew ?_ | refine blk_alloc ?_ _)); refine blk_far ?_ NB233_230.out _; (with_reducible repeat (first | refine blk_drewN ?_ _ | refine blk_drew ?_ | refine blk_alloc ?_ _)); refine blk_far ?_ NB233_228.out _; (with_reducible repeat (first | refine blk_drewN ?_ _ | refine blk_drew ?_ | refine blk_alloc ?_ _)); refine blk_far ?_ NB233_228.out _; (with_reducible repeat (first | refine blk_drewN ?_ _ | refine blk_drew ?_ | refine blk_alloc ?_ _)); refine blk_far ?_ NB233_228.out _; (with_reducible repeat (first | refine blk_drewN ?_ _ | refine blk_drew ?_ | refine blk_alloc ?_ _)); exact BK233.out) hb); have n8_ := Aside0.mk (blk_below (g := gb245) (o := .cells #[.int .i64 t235, .int .u64 t236, .slice Ao61 t237.length co61] 27 (0, 0)) (by (with_reducible repeat (first | refine blk_drewN ?_ _ | refine blk_drew ?_ | refine blk_alloc ?_ _)); refine blk_far ?_ NB245_230.out _; (with_reducible repeat (first | refine blk_drewN ?_ _ | refine blk_drew ?_ | refine blk_alloc ?_ _)); refine blk_far ?_ NB245_230.out _; (with_reducible repeat (first | refine blk_drewN ?_ _ | refine blk_drew ?_ | refine blk_alloc ?_ _)); refine blk_far ?_ NB245_228.out _; (with_reducible repeat (first | refine blk_drewN ?_ _ | refine blk_drew ?_ | refine blk_alloc ?_ _)); refine blk_far ?_ NB245_228.out _; (with_reducible repeat (first | refine blk_drewN ?_ _ | refine blk_drew ?_ | refine blk_alloc ?_ _)); refine blk_far ?_ NB245_228.out _; (with_reducible repeat (first | refine blk_drewN ?_ _ | refine blk_drew ?_ | refine blk_alloc ?_ _)); exact BK245.out) hb); have n9_ := Aside0.mk (blk_below (g := gb246) (o := .cells #[.slice Ao62 t240.length co62, .int .i64 t243] 33 (0, 0)) (by (with_reducible repeat (first | refine blk_drewN ?_ _ | refine blk_drew ?_ | refine blk_alloc ?_ _)); refine blk_far ?_ NB246_230.out _; (with_reducible repeat (first | refine blk_drewN ?_ _ | refine blk_drew ?_ | refine blk_alloc ?_ _)); refine blk_far ?_ NB246_230.out _; (with_reducible repeat (first | refine blk_drewN ?_ _ | refine blk_drew ?_ | refine blk_alloc ?_ _)); refine blk_far ?_ NB246_228.out _; (with_reducible repeat (first | refine blk_drewN ?_ _ | refine blk_drew ?_ | refine blk_alloc ?_ _)); refine blk_far ?_ NB246_228.out _; (with_reducible repeat (first | refine blk_drewN ?_ _ | refine blk_drew ?_ | refine blk_alloc ?_ _)); refine blk_far ?_ NB246_228.out _; (with_reducible repeat (first | refine blk_drewN ?_ _ | refine blk_drew ?_ | refine blk_alloc ?_ _)); exact BK246.out) hb); have n10_ := Aside0.mk (below_step (by repeat (first | (with_reducible first | exact HB.out | apply below_alloc | apply pw_below_drewN | apply below_drew1 | refine below_set ?_ GE228.out | refine below_set ?_ GE230.out | refine below_set ?_ GE233.out | refine below_set ?_ GE245.out | refine below_set ?_ GE246.out) | exact HB.out)) hb); clear HO_229002; clear HO_231000; clear HO239; clear HO242; clear HO261; clear BK228; clear BK230; clear BK233; clear BK245; clear BK246; clear HB; have HO_229002 := n0_; have HO_231000 := n1_; have HO239 := n2_; have HO242 := n3_; have HO261 := n4_; have BK228 := n5_; have BK230 := n6_; have BK233 := n7_; have BK245 := n8_; have BK246 := n9_; have HB := n10_; clear n0_ n1_ n2_ n3_ n4_ n5_ n6_ n7_ n8_ n9_ n10_; (try clear hb); (try clear hb2); (try clear hk); (try clear hi)))
                 go_meet
                 case rel => exact ⟨_, (!t262), (by first | rfl | (simp; done) | (simp [*]; done)), H', ⟨by have := HJ4.out; have := HK2.out; have := HJ21.out; first | omega | exact Nat.le_refl _⟩, ⟨by (with_reducible repeat (first | apply Kd.R_alloc | apply Kd.R_drewN | apply Kd.R_drew)); exact HO261.out⟩, ⟨by (with_reducible repeat (first | apply Kd.V_alloc | apply Kd.V_drewN | apply Kd.V_drew)); exact Kd.V_mono HO239.out (fun _ hk => ⟨hk.1.1, ⟨hk.2, ⟨hk.1.2.1, ⟨hk.1.2.2.1, ⟨hk.1.2.2.2.1, ⟨hk.1.2.2.2.2.1, hk.1.2.2.2.2.2⟩⟩⟩⟩⟩⟩)⟩, ⟨by (with_reducible repeat (first | apply Kd.V_alloc | apply Kd.V_drewN | apply Kd.V_drew)); exact Kd.V_mono HO242.out (fun _ hk => ⟨hk.1.1, ⟨hk.2, ⟨hk.1.2.1, ⟨hk.1.2.2.1, ⟨hk.1.2.2.2.1, ⟨hk.1.2.2.2.2.1, hk.1.2.2.2.2.2⟩⟩⟩⟩⟩⟩)⟩, ⟨by (with_reducible repeat (first | apply Kd.V_alloc | apply Kd.V_drewN | apply Kd.V_drew)); exact Kd.V_mono HO239.out (fun _ hk => ⟨hk.1.1, ⟨hk.2, ⟨hk.1.2.1, ⟨hk.1.2.2.1, ⟨hk.1.2.2.2.1, ⟨hk.1.2.2.2.2.1, hk.1.2.2.2.2.2⟩⟩⟩⟩⟩⟩)⟩, ⟨by (with_reducible repeat (first | apply Kd.V_alloc | apply Kd.V_drewN | apply Kd.V_drew)); exact Kd.V_mono HO242.out (fun _ hk => ⟨hk.1.1, ⟨hk.2, ⟨hk.1.2.1, ⟨hk.1.2.2.1, ⟨hk.1.2.2.2.1, ⟨hk.1.2.2.2.2.1, hk.1.2.2.2.2.2⟩⟩⟩⟩⟩⟩)⟩, ⟨by (with_reducible repeat (first | refine blk_drewN ?_ _ | refine blk_drew ?_ | refine blk_alloc ?_ _)); exact BK228.out⟩, ⟨by (with_reducible repeat (first | refine blk_drewN ?_ _ | refine blk_drew ?_ | refine blk_alloc ?_ _)); exact BK230.out⟩, ⟨by (with_reducible repeat (first | refine blk_drewN ?_ _ | refine blk_drew ?_ | refine blk_alloc ?_ _)); exact BK233.out⟩, ⟨by (with_reducible repeat (first | refine blk_drewN ?_ _ | refine blk_drew ?_ | refine blk_alloc ?_ _)); exact BK245.out⟩, ⟨by (with_reducible repeat (first | refine blk_drewN ?_ _ | refine blk_drew ?_ | refine blk_alloc ?_ _)); exact BK246.out⟩, ⟨by repeat (first | (with_reducible first | exact HB.out | apply below_alloc | apply pw_below_drewN | apply below_drew1 | refine below_set ?_ GE228.out | refine below_set ?_ GE230.out | refine below_set ?_ GE233.out | refine below_set ?_ GE245.out | refine below_set ?_ GE246.out) | exact HB.out)⟩⟩
                ·
                 rw [if_neg c76] at H; cases H
               ·
                rw [if_neg c75] at H; cases H
              case rest =>
               clear HC44
               try clear c1
               try clear c2
               try clear p2
               try clear q2
               try clear hx2
               try clear c3
               try clear c4
               try clear c5
               try clear c6
               try clear p6
               try clear c7
               try clear c8
               try clear c9
               try clear c10
               try clear c10b0
               try clear c10b1
               try clear c11
               try clear c11b0
               try clear c11b1
               try clear c12
               try clear c13
               try clear c13b0
               try clear c13b1
               try clear c17
               try clear c19
               try clear c19b0
               try clear c20
               try clear c20b0
               try clear c21
               try clear c21b0
               try clear p23
               try clear q23
               try clear hx23
               try clear c24
               try clear c25
               try clear c27
               try clear c27b0
               try clear c27b1
               try clear c28
               try clear c29
               try clear c31
               try clear c31b0
               try clear c31b1
               try clear c32
               try clear c33
               try clear c35
               try clear c36
               try clear c38
               try clear c42
               try clear c42b0
               try clear c42b1
               try clear c43
               try clear c45
               try clear c46
               try clear c48
               try clear c56
               try clear c57
               try clear c58
               try clear c59
               try clear c63
               try clear c64
               try clear p64
               try clear c65
               try clear c75
               try clear c75b0
               try clear c75b1
               try clear c76
               try clear c76b0
               try clear c76b1
               try clear c78
               try clear c79
               try clear c80
               try clear c81
               try clear c84
               try clear c85
               try clear c86
               try clear c87
               try clear c89
               try clear c90
               try clear c91
               try clear c92
               try clear hcz18_0
               try clear hcz18_1
               try clear hcz26_0
               try clear hcz26_1
               try clear hcz30_0
               try clear hcz30_1
               try clear hcz34_0
               try clear hcz34_1
               try clear hcz37_0
               try clear hcz37_1
               try clear hcz47_0
               try clear hcz47_1
               try clear hcz47_2
               try clear hcz49_0
               try clear hcz49_1
               try clear hcz50_0
               try clear hcz50_1
               try clear hcz60_0
               try clear hcz60_1
               try clear hcz60_2
               try clear hcz66_0
               try clear hcz66_1
               try clear hcz82_0
               try clear hcz82_1
               try clear hcz82_2
               try clear hcz88_0
               try clear hcz88_1
               try clear hcz88_2
               try clear hcz8_0
               try clear hcz8_1
               try clear hcz8_2
               try clear hcz93_0
               try clear hcz93_1
               try clear hcz93_2
               try clear hfz18_0
               try clear hfz18_1
               try clear hfz26_0
               try clear hfz26_1
               try clear hfz30_0
               try clear hfz30_1
               try clear hfz34_0
               try clear hfz34_1
               try clear hfz37_0
               try clear hfz37_1
               try clear hfz47_0
               try clear hfz47_1
               try clear hfz47_2
               try clear hfz49_0
               try clear hfz49_1
               try clear hfz50_0
               try clear hfz50_1
               try clear hfz60_0
               try clear hfz60_1
               try clear hfz60_2
               try clear hfz66_0
               try clear hfz66_1
               try clear hfz82_0
               try clear hfz82_1
               try clear hfz82_2
               try clear hfz88_0
               try clear hfz88_1
               try clear hfz88_2
               try clear hfz8_0
               try clear hfz8_1
               try clear hfz8_2
               try clear hfz93_0
               try clear hfz93_1
               try clear hfz93_2
               try clear hx232_0
               try clear hx232_1
               try clear p2
               try clear p23
               try clear p232
               try clear p6
               try clear q2
               try clear q23
               try clear q232
               obtain ⟨kq, x127_43, rfl, HA, HJ43, HO_12, HO_229002, HO_231000, HO_246002, HO_247000, BK228, BK230, BK233, BK245, BK246, HB⟩ := hcut
               cases kq with
               | zero => exact absurd HA.out (by simp [samphirelaw17_SlotsHolds.j3])
               | succ kj43 =>
                have H := HA.out
                clear HA
                simp only [samphirelaw17_SlotsHolds.j3] at H
                by_cases c94 : x127_43 = true
                ·
                 rw [if_pos c94] at H; cases H
                ·
                 replace c94 := Bool.eq_false_iff.mpr c94
                 subst c94
                 have H1 : (samphirelaw17_SlotsHolds.l1 kj43 (wrap64 (1 + (wrap64 (Int.tmod a0 10)))) (IntKind.u64.wrap (x11_2 + ((rd_T35 l1 x50_2).f1))) y259 l1 (l1.length : Int) x50_2 t237 (t237.length : Int) 0 t235 t236 t237 t240 t243) = some r := by rw [if_neg (show ¬ (false = true) by decide)] at H; exact H
                 clear H
                 have H := H1
                 clear H1
                 have H' := Aside0.mk H
                 clear H
                 have hnb95 := NB228_230.out
                 have hnc95 := NB230_228.out
                 have hnb96 := NB228_233.out
                 have hnc96 := NB233_228.out
                 have hnb97 := NB228_245.out
                 have hnc97 := NB245_228.out
                 have hnb98 := NB228_246.out
                 have hnc98 := NB246_228.out
                 have hcz99_0 : wc.cell? ⟨gb228, 0, none⟩ = some (.int .i64 t235) := (blk_cell BK228.out 0).trans rfl
                 have hcz99_1 : wc.cell? ⟨gb228, 1, none⟩ = some (.int .u64 t236) := (blk_cell BK228.out 1).trans rfl
                 have hcz99_2 : wc.cell? ⟨gb228, 2, none⟩ = some (.slice Ao61 t237.length co61) := (blk_cell BK228.out 2).trans rfl
                 have hfz99_0 := blk_frozen BK228.out 0
                 have hfz99_1 := blk_frozen BK228.out 1
                 have hfz99_2 := blk_frozen BK228.out 2
                 go_wp2
                 go_loopg [131] kj43 (fun kq v131 w' => ∃ (x131_5 : Int), v131 = .int .i64 x131_5 ∧ Aside0 (samphirelaw17_SlotsHolds.l1 kq (wrap64 (1 + (wrap64 (Int.tmod a0 10)))) (IntKind.u64.wrap (x11_2 + ((rd_T35 l1 x50_2).f1))) y259 l1 (l1.length : Int) x50_2 t237 (t237.length : Int) x131_5 t235 t236 t237 t240 t243 = some r) ∧ Aside0 (kq ≤ kj43) ∧ Aside0 (Kd.R Kd.string 9 w' w.heap.size (fun k_ => (w.heap.size ≤ k_)) v260 y259) ∧ Aside0 (Kd.V Kd.string 9 w' w.heap.size (fun k_ => (P2_ k_ ∨ w.heap.size ≤ k_) ∧ some k_ ≠ (v260 : Value).ownBlock ∧ k_ ≠ gb228 ∧ k_ ≠ gb230 ∧ k_ ≠ gb233 ∧ k_ ≠ gb245 ∧ k_ ≠ gb246) (.slice Ao61 t237.length co61) t237) ∧ Aside0 (Kd.V Kd.string 9 w' w.heap.size (fun k_ => (P2_ k_ ∨ w.heap.size ≤ k_) ∧ some k_ ≠ (v260 : Value).ownBlock ∧ k_ ≠ gb228 ∧ k_ ≠ gb230 ∧ k_ ≠ gb233 ∧ k_ ≠ gb245 ∧ k_ ≠ gb246) (.slice Ao61 t237.length co61) t237) ∧ Aside0 (Kd.V (Kd.int .u64) 24 w' w.heap.size (fun k_ => (P2_ k_ ∨ w.heap.size ≤ k_) ∧ some k_ ≠ (v260 : Value).ownBlock ∧ k_ ≠ gb228 ∧ k_ ≠ gb230 ∧ k_ ≠ gb233 ∧ k_ ≠ gb245 ∧ k_ ≠ gb246) (.slice Ao62 t240.length co62) t240) ∧ Aside0 (Kd.V Kd.string 9 w' w.heap.size (fun k_ => (P2_ k_ ∨ w.heap.size ≤ k_) ∧ some k_ ≠ (v260 : Value).ownBlock ∧ k_ ≠ gb228 ∧ k_ ≠ gb230 ∧ k_ ≠ gb233 ∧ k_ ≠ gb245 ∧ k_ ≠ gb246) (.slice Ao61 t237.length co61) t237) ∧ Aside0 (Kd.V (Kd.int .u64) 24 w' w.heap.size (fun k_ => (P2_ k_ ∨ w.heap.size ≤ k_) ∧ some k_ ≠ (v260 : Value).ownBlock ∧ k_ ≠ gb228 ∧ k_ ≠ gb230 ∧ k_ ≠ gb233 ∧ k_ ≠ gb245 ∧ k_ ≠ gb246) (.slice Ao62 t240.length co62) t240) ∧ Aside0 (w'.heap[gb228]? = some (.cells #[.int .i64 t235, .int .u64 t236, (.slice Ao61 t237.length co61)] 27 (0, 0))) ∧ Aside0 (w'.heap[gb230]? = some (.cells #[(.slice Ao62 t240.length co62), .int .i64 t243] 33 (0, 0))) ∧ Aside0 (w'.heap[gb233]? = some (.cells #[.string ((rd_T35 l1 x50_2).f0), .int .u64 ((rd_T35 l1 x50_2).f1)] 35 (0, 0))) ∧ Aside0 (w'.heap[gb245]? = some (.cells #[.int .i64 t235, .int .u64 t236, (.slice Ao61 t237.length co61)] 27 (0, 0))) ∧ Aside0 (w'.heap[gb246]? = some (.cells #[(.slice Ao62 t240.length co62), .int .i64 t243] 33 (0, 0))) ∧ Aside0 (Below w.heap.size w w'))
                 case atStart => exact ⟨(0), (by first | rfl | (simp; done) | (simp [*]; done)), H', ⟨Nat.le_refl _⟩, ⟨by (with_reducible repeat (first | apply Kd.R_alloc | apply Kd.R_drewN | apply Kd.R_drew)); exact HO_12.out⟩, ⟨by (with_reducible repeat (first | apply Kd.V_alloc | apply Kd.V_drewN | apply Kd.V_drew)); exact HO_229002.out⟩, ⟨by (with_reducible repeat (first | apply Kd.V_alloc | apply Kd.V_drewN | apply Kd.V_drew)); exact HO_229002.out⟩, ⟨by (with_reducible repeat (first | apply Kd.V_alloc | apply Kd.V_drewN | apply Kd.V_drew)); exact HO_231000.out⟩, ⟨by (with_reducible repeat (first | apply Kd.V_alloc | apply Kd.V_drewN | apply Kd.V_drew)); exact HO_246002.out⟩, ⟨by (with_reducible repeat (first | apply Kd.V_alloc | apply Kd.V_drewN | apply Kd.V_drew)); exact HO_247000.out⟩, ⟨by (with_reducible repeat (first | refine blk_drewN ?_ _ | refine blk_drew ?_ | refine blk_alloc ?_ _)); exact BK228.out⟩, ⟨by (with_reducible repeat (first | refine blk_drewN ?_ _ | refine blk_drew ?_ | refine blk_alloc ?_ _)); exact BK230.out⟩, ⟨by (with_reducible repeat (first | refine blk_drewN ?_ _ | refine blk_drew ?_ | refine blk_alloc ?_ _)); exact BK233.out⟩, ⟨by (with_reducible repeat (first | refine blk_drewN ?_ _ | refine blk_drew ?_ | refine blk_alloc ?_ _)); exact BK245.out⟩, ⟨by (with_reducible repeat (first | refine blk_drewN ?_ _ | refine blk_drew ?_ | refine blk_alloc ?_ _)); exact BK246.out⟩, ⟨by repeat (first | (with_reducible first | exact HB.out | apply below_alloc | apply pw_below_drewN | apply below_drew1 | refine below_set ?_ GE228.out | refine below_set ?_ GE230.out | refine below_set ?_ GE233.out | refine below_set ?_ GE245.out | refine below_set ?_ GE246.out) | exact HB.out)⟩⟩
                 case round =>
                  clear H'
                  try clear c1
                  try clear c2
                  try clear p2
                  try clear q2
                  try clear hx2
                  try clear c3
                  try clear c4
                  try clear c5
                  try clear c6
                  try clear p6
                  try clear c7
                  try clear c8
                  try clear c9
                  try clear c10
                  try clear c10b0
                  try clear c10b1
                  try clear c11
                  try clear c11b0
                  try clear c11b1
                  try clear c12
                  try clear c13
                  try clear c13b0
                  try clear c13b1
                  try clear c17
                  try clear c19
                  try clear c19b0
                  try clear c20
                  try clear c20b0
                  try clear c21
                  try clear c21b0
                  try clear p23
                  try clear q23
                  try clear hx23
                  try clear c24
                  try clear c25
                  try clear c27
                  try clear c27b0
                  try clear c27b1
                  try clear c28
                  try clear c29
                  try clear c31
                  try clear c31b0
                  try clear c31b1
                  try clear c32
                  try clear c33
                  try clear c35
                  try clear c36
                  try clear c38
                  try clear c42
                  try clear c42b0
                  try clear c42b1
                  try clear c43
                  try clear c45
                  try clear c46
                  try clear c48
                  try clear c56
                  try clear c57
                  try clear c58
                  try clear c59
                  try clear c63
                  try clear c64
                  try clear p64
                  try clear c65
                  try clear c75
                  try clear c75b0
                  try clear c75b1
                  try clear c76
                  try clear c76b0
                  try clear c76b1
                  try clear c78
                  try clear c79
                  try clear c80
                  try clear c81
                  try clear c84
                  try clear c85
                  try clear c86
                  try clear c87
                  try clear c89
                  try clear c90
                  try clear c91
                  try clear c92
                  try clear c94
                  try clear c95
                  try clear c96
                  try clear c97
                  try clear c98
                  try clear hcz18_0
                  try clear hcz18_1
                  try clear hcz26_0
                  try clear hcz26_1
                  try clear hcz30_0
                  try clear hcz30_1
                  try clear hcz34_0
                  try clear hcz34_1
                  try clear hcz37_0
                  try clear hcz37_1
                  try clear hcz47_0
                  try clear hcz47_1
                  try clear hcz47_2
                  try clear hcz49_0
                  try clear hcz49_1
                  try clear hcz50_0
                  try clear hcz50_1
                  try clear hcz60_0
                  try clear hcz60_1
                  try clear hcz60_2
                  try clear hcz66_0
                  try clear hcz66_1
                  try clear hcz82_0
                  try clear hcz82_1
                  try clear hcz82_2
                  try clear hcz88_0
                  try clear hcz88_1
                  try clear hcz88_2
                  try clear hcz8_0
                  try clear hcz8_1
                  try clear hcz8_2
                  try clear hcz93_0
                  try clear hcz93_1
                  try clear hcz93_2
                  try clear hcz99_0
                  try clear hcz99_1
                  try clear hcz99_2
                  try clear hfz18_0
                  try clear hfz18_1
                  try clear hfz26_0
                  try clear hfz26_1
                  try clear hfz30_0
                  try clear hfz30_1
                  try clear hfz34_0
                  try clear hfz34_1
                  try clear hfz37_0
                  try clear hfz37_1
                  try clear hfz47_0
                  try clear hfz47_1
                  try clear hfz47_2
                  try clear hfz49_0
                  try clear hfz49_1
                  try clear hfz50_0
                  try clear hfz50_1
                  try clear hfz60_0
                  try clear hfz60_1
                  try clear hfz60_2
                  try clear hfz66_0
                  try clear hfz66_1
                  try clear hfz82_0
                  try clear hfz82_1
                  try clear hfz82_2
                  try clear hfz88_0
                  try clear hfz88_1
                  try clear hfz88_2
                  try clear hfz8_0
                  try clear hfz8_1
                  try clear hfz8_2
                  try clear hfz93_0
                  try clear hfz93_1
                  try clear hfz93_2
                  try clear hfz99_0
                  try clear hfz99_1
                  try clear hfz99_2
                  try clear hx232_0
                  try clear hx232_1
                  try clear p2
                  try clear p23
                  try clear p232
                  try clear p6
                  try clear p64
                  try clear q2
                  try clear q23
                  try clear q232
                  obtain ⟨x131_5, rfl, HA, HK5, HO_12, HO_129, HO_229002, HO_231000, HO_246002, HO_247000, BK228, BK230, BK233, BK245, BK246, HB⟩ := hrel
                  cases gk with
                  | zero => exact absurd HA.out (by simp [samphirelaw17_SlotsHolds.l1])
                  | succ k5 =>
                   have H := HA.out
                   clear HA
                   simp only [samphirelaw17_SlotsHolds.l1] at H
                   by_cases c100 : x131_5 < (t237.length : Int)
                   ·
                    rw [if_pos c100] at H
                    have c100b0 : decide (x131_5 < (t237.length : Int)) = true := decide_eq_true c100
                    clear c100
                    by_cases c101 : 0 ≤ x131_5
                    ·
                     rw [if_pos c101] at H
                     have c101b0 : decide (0 ≤ x131_5) = true := decide_eq_true c101
                     clear c101
                     by_cases c102 : x131_5 < (t237.length : Int)
                     ·
                      rw [if_pos c102] at H
                      have c102b0 : decide (x131_5 < (t237.length : Int)) = true := decide_eq_true c102
                      clear c102
                      replace H := Option.bind_eq_some_iff.mp H
                      obtain ⟨t264, A1030, H⟩ := H
                      replace H : (if t264 = 0 then (none) else (samphirelaw17_SlotsHolds.l1 k5 (wrap64 (1 + (wrap64 (Int.tmod a0 10)))) (IntKind.u64.wrap (x11_2 + ((rd_T35 l1 x50_2).f1))) y259 l1 (l1.length : Int) x50_2 t237 (t237.length : Int) (wrap64 (x131_5 + 1)) t235 t236 t237 t240 t243)) = some r := H
                      have A103 := Aside0.mk A1030
                      clear A1030
                      by_cases c104 : t264 = 0
                      ·
                       rw [if_pos c104] at H; cases H
                      ·
                       rw [if_neg c104] at H
                       have c104b0 : (t264 == 0) = false := beq_eq_false_iff_ne.mpr c104
                       have c104b1 : (t264 != 0) = true := bne_iff_ne.mpr c104
                       have H' := Aside0.mk H
                       clear H
                       have p263 : 0 ≤ (x131_5 : Int) := of_decide_eq_true (by first | (with_reducible assumption) | assumption)
                       have q263 : x131_5 < (t237.length : Int) := of_decide_eq_true (by first | (with_reducible assumption) | assumption)
                       obtain ⟨ad263, e263, hx263_0⟩ := Kd.at_string (Kd.V_reads' HO_129.out).2.2 x131_5 p263 q263
                       cases e263
                       replace p263 := eq_true p263
                       replace q263 := eq_true q263
                       obtain ⟨Ao106, co106, eo106⟩ := Kd.R_slice HO_12.out
                       subst eo106
                       go_wp2_with (first | ((with_reducible refine gate_callee (f := 14) rfl ?_); refine goesL_ (some 137) rfl rfl Try.func14 (by kernel_rfl) rfl #[.slice Ao106 y259.length co106, .string (rdOf ByteArray.empty t237 x131_5)] rfl (by (try simp only [List.map_toArray, List.map_cons, List.map_nil]); first | done | rfl | (simp only [List.length_drop, List.length_take]; rfl)) ?_; (with_reducible refine (samphireref16_Count.calls k5 _ _ y259 (rdOf ByteArray.empty t237 x131_5) t264 _ ?side1 ?side2 A103.out).mono ?_); (case side1 => repeat (first | exact (Kd.R_reads' HO_12.out).2.2 | (with_reducible refine Kd.C_alloc ?_ _) | (with_reducible refine Kd.C_drewN ?_ _) | (with_reducible refine Kd.C_drew ?_))); (case side2 => exact (Kd.R_reads' HO_12.out).2.1); rintro e w' ⟨rfl, ⟨nd, rfl⟩⟩; refine ⟨_, rfl, ?_⟩))
                       go_roundg k5
                       case measure => have := HJ4.out; have := HK2.out; have := HJ21.out; have := HJ43.out; have := HK5.out; omega
                       case rel => exact ⟨(wrap64 (x131_5 + 1)), (by first | rfl | (simp; done) | (simp [*]; done)), H', ⟨by have := HJ4.out; have := HK2.out; have := HJ21.out; have := HJ43.out; have := HK5.out; omega⟩, ⟨by (with_reducible repeat (first | apply Kd.R_alloc | apply Kd.R_drewN | apply Kd.R_drew)); exact HO_12.out⟩, ⟨by (with_reducible repeat (first | apply Kd.V_alloc | apply Kd.V_drewN | apply Kd.V_drew)); exact HO_129.out⟩, ⟨by (with_reducible repeat (first | apply Kd.V_alloc | apply Kd.V_drewN | apply Kd.V_drew)); exact HO_229002.out⟩, ⟨by (with_reducible repeat (first | apply Kd.V_alloc | apply Kd.V_drewN | apply Kd.V_drew)); exact HO_231000.out⟩, ⟨by (with_reducible repeat (first | apply Kd.V_alloc | apply Kd.V_drewN | apply Kd.V_drew)); exact HO_246002.out⟩, ⟨by (with_reducible repeat (first | apply Kd.V_alloc | apply Kd.V_drewN | apply Kd.V_drew)); exact HO_247000.out⟩, ⟨by (with_reducible repeat (first | refine blk_drewN ?_ _ | refine blk_drew ?_ | refine blk_alloc ?_ _)); exact BK228.out⟩, ⟨by (with_reducible repeat (first | refine blk_drewN ?_ _ | refine blk_drew ?_ | refine blk_alloc ?_ _)); exact BK230.out⟩, ⟨by (with_reducible repeat (first | refine blk_drewN ?_ _ | refine blk_drew ?_ | refine blk_alloc ?_ _)); exact BK233.out⟩, ⟨by (with_reducible repeat (first | refine blk_drewN ?_ _ | refine blk_drew ?_ | refine blk_alloc ?_ _)); exact BK245.out⟩, ⟨by (with_reducible repeat (first | refine blk_drewN ?_ _ | refine blk_drew ?_ | refine blk_alloc ?_ _)); exact BK246.out⟩, ⟨by repeat (first | (with_reducible first | exact HB.out | apply below_alloc | apply pw_below_drewN | apply below_drew1 | refine below_set ?_ GE228.out | refine below_set ?_ GE230.out | refine below_set ?_ GE233.out | refine below_set ?_ GE245.out | refine below_set ?_ GE246.out) | exact HB.out)⟩⟩
                     ·
                      rw [if_neg c102] at H
                      exact absurd H (by simp)
                    ·
                     rw [if_neg c101] at H
                     exact absurd H (by simp)
                   ·
                    rw [if_neg c100] at H
                    have c100b0 : decide (x131_5 < (t237.length : Int)) = false := decide_eq_false c100
                    clear c100
                    have H' := Aside0.mk H
                    clear H
                    go_wp2
                    go_roundg k5
                    case measure => have := HJ4.out; have := HK2.out; have := HJ21.out; have := HJ43.out; have := HK5.out; omega
                    case rel => exact ⟨((IntKind.u64.wrap (x11_2 + ((rd_T35 l1 x50_2).f1)))), (y259), (wrap64 (x50_2 + 1)), (t235), (t236), (t237), (t240), (t243), (.slice Ao61 t237.length co61), (.slice Ao62 t240.length co62), (by first | rfl | (simp; done) | (simp [*]; done)), (by first | rfl | (simp; done) | (simp [*]; done)), H', ⟨by have := HJ4.out; have := HK2.out; have := HJ21.out; have := HJ43.out; have := HK5.out; omega⟩, ⟨by (with_reducible repeat (first | apply Kd.R_alloc | apply Kd.R_drewN | apply Kd.R_drew)); exact HO_12.out⟩, ⟨by (with_reducible repeat (first | apply Kd.V_alloc | apply Kd.V_drewN | apply Kd.V_drew)); exact Kd.V_mono HO_229002.out (fun _ hk => ⟨hk.1, ⟨hk.2.1, ⟨hk.2.2.1, hk.2.2.2.1⟩⟩⟩)⟩, ⟨by (with_reducible repeat (first | apply Kd.V_alloc | apply Kd.V_drewN | apply Kd.V_drew)); exact Kd.V_mono HO_231000.out (fun _ hk => ⟨hk.1, ⟨hk.2.1, ⟨hk.2.2.1, hk.2.2.2.1⟩⟩⟩)⟩, ⟨by (with_reducible repeat (first | refine blk_drewN ?_ _ | refine blk_drew ?_ | refine blk_alloc ?_ _)); exact BK228.out⟩, ⟨by (with_reducible repeat (first | refine blk_drewN ?_ _ | refine blk_drew ?_ | refine blk_alloc ?_ _)); exact BK230.out⟩, ⟨by repeat (first | (with_reducible first | exact HB.out | apply below_alloc | apply pw_below_drewN | apply below_drew1 | refine below_set ?_ GE228.out | refine below_set ?_ GE230.out | refine below_set ?_ GE233.out | refine below_set ?_ GE245.out | refine below_set ?_ GE246.out) | exact HB.out)⟩⟩
             ·
              rw [if_neg c43] at H
              exact absurd H (by simp)
            ·
             rw [if_neg c42] at H
             have c42b0 : (t244 == 0) = false := beq_eq_false_iff_ne.mpr c42
             have c42b1 : (t244 != 0) = true := bne_iff_ne.mpr c42
             by_cases c107 : t244 = 8
             ·
              rw [if_pos c107] at H
              have c107b0 : (t244 == 8) = true := beq_iff_eq.mpr c107
              have c107b1 : (t244 != 8) = false := bne_eq_false_iff_eq.mpr c107
              clear c107
              replace H := Option.bind_eq_some_iff.mp H
              obtain ⟨⟨t247, t248, t249⟩, A1080, H⟩ := H
              replace H : ((samphirelaw17_ref.f x229000_2 x229001_2 x229002_2).bind fun bt252 => ((samphireref17_Same.f kj21 t247 t248 t249 bt252.1 bt252.2.1 bt252.2.2).bind fun t257 => (if t257 = true then (if t243 = x231001_2 then ((samphirelaw17_awake.f kj21).bind fun t258 => (some t258)) else (none)) else (none)))) = some r := H
              have A108 := Aside0.mk A1080
              clear A1080
              replace H := Option.bind_eq_some_iff.mp H
              obtain ⟨⟨t252, t253, t254⟩, A1090, H⟩ := H
              replace H : ((samphireref17_Same.f kj21 t247 t248 t249 t252 t253 t254).bind fun t257 => (if t257 = true then (if t243 = x231001_2 then ((samphirelaw17_awake.f kj21).bind fun t258 => (some t258)) else (none)) else (none))) = some r := H
              have A109 := Aside0.mk A1090
              clear A1090
              replace H := Option.bind_eq_some_iff.mp H
              obtain ⟨t257, A1100, H⟩ := H
              replace H : (if t257 = true then (if t243 = x231001_2 then ((samphirelaw17_awake.f kj21).bind fun t258 => (some t258)) else (none)) else (none)) = some r := H
              have A110 := Aside0.mk A1100
              clear A1100
              by_cases c111 : t257 = true
              ·
               subst c111
               have H1 : (if t243 = x231001_2 then ((samphirelaw17_awake.f kj21).bind fun t258 => (some t258)) else (none)) = some r := by rw [if_pos rfl] at H; exact H
               clear H
               have H := H1
               clear H1
               by_cases c112 : t243 = x231001_2
               ·
                rw [if_pos c112] at H
                have c112b0 : (t243 == x231001_2) = true := beq_iff_eq.mpr c112
                have c112b1 : (t243 != x231001_2) = false := bne_eq_false_iff_eq.mpr c112
                clear c112
                replace H := Option.bind_eq_some_iff.mp H
                obtain ⟨t258, A1130, H⟩ := H
                replace H : (some t258) = some r := H
                have A113 := Aside0.mk A1130
                clear A1130
                obtain rfl := Option.some.inj H
                have hnb114 := NB228_230.out
                have hnc114 := NB230_228.out
                have hnb115 := NB228_233.out
                have hnc115 := NB233_228.out
                have hcz116_0 : wc.cell? ⟨gb228, 0, none⟩ = some (.int .i64 x229000_2) := (blk_cell BK228.out 0).trans rfl
                have hcz116_1 : wc.cell? ⟨gb228, 1, none⟩ = some (.int .u64 x229001_2) := (blk_cell BK228.out 1).trans rfl
                have hcz116_2 : wc.cell? ⟨gb228, 2, none⟩ = some (u229002) := (blk_cell BK228.out 2).trans rfl
                have hfz116_0 := blk_frozen BK228.out 0
                have hfz116_1 := blk_frozen BK228.out 1
                have hfz116_2 := blk_frozen BK228.out 2
                have hnb117 := NB233_230.out
                have hnc117 := NB230_233.out
                have hcz118_0 : wc.cell? ⟨gb233, 0, none⟩ = some (.string ((rd_T35 l1 x50_2).f0)) := (blk_cell BK233.out 0).trans rfl
                have hcz118_1 : wc.cell? ⟨gb233, 1, none⟩ = some (.int .u64 ((rd_T35 l1 x50_2).f1)) := (blk_cell BK233.out 1).trans rfl
                have hfz118_0 := blk_frozen BK233.out 0
                have hfz118_1 := blk_frozen BK233.out 1
                have hcz119_0 : wc.cell? ⟨gb230, 0, none⟩ = some (u231000) := (blk_cell BK230.out 0).trans rfl
                have hcz119_1 : wc.cell? ⟨gb230, 1, none⟩ = some (.int .i64 x231001_2) := (blk_cell BK230.out 1).trans rfl
                have hfz119_0 := blk_frozen BK230.out 0
                have hfz119_1 := blk_frozen BK230.out 1
                obtain ⟨Ao120, co120, eo120⟩ := Kd.V_slice HO_229002.out
                subst eo120
                obtain ⟨Ao121, co121, eo121⟩ := Kd.V_slice HO_231000.out
                subst eo121
                try go_wp2_with (first | ((with_reducible refine gate_callee (f := 10) rfl ?_); refine goesL_ (some 76) rfl rfl Try.func10 (by kernel_rfl) rfl #[.agg #[.int .i64 x229000_2, .int .u64 x229001_2, .slice Ao120 x229002_2.length co120], .string ((rd_T35 l1 x50_2).f0), .int .u64 ((rd_T35 l1 x50_2).f1), .agg #[.slice Ao121 x231000_2.length co121, .int .i64 x231001_2]] rfl (by (try simp only [List.map_toArray, List.map_cons, List.map_nil]); first | done | rfl | (simp only [List.length_drop, List.length_take]; rfl)) ?_; (with_reducible refine (slots_Add.calls kj21 x229000_2 x229001_2 (fun k_ => ((P2_ k_ ∨ w.heap.size ≤ k_) ∧ (some k_ ≠ (u12 : Value).ownBlock ∧ (k_ ≠ gb228 ∧ (k_ ≠ gb230 ∧ k_ ≠ gb233))))) _ _ x229002_2 ((rd_T35 l1 x50_2).f0) ((rd_T35 l1 x50_2).f1) (fun k_ => ((P2_ k_ ∨ w.heap.size ≤ k_) ∧ (some k_ ≠ (u12 : Value).ownBlock ∧ (k_ ≠ gb228 ∧ (k_ ≠ gb230 ∧ k_ ≠ gb233))))) _ _ x231000_2 x231001_2 t235 t236 t237 t240 t243 t244 _ ?side1 ?side2 A41.out).mono ?_); (case side1 => exact HO_229002.out); (case side2 => exact HO_231000.out); rintro e w122 ⟨v238, v241, rfl, ho0, ho1, hb⟩; refine ⟨_, rfl, ?_⟩; have n0_ := Aside0.mk (Kd.R_below (by (with_reducible repeat (first | apply Kd.R_alloc | apply Kd.R_drewN | apply Kd.R_drew)); exact HO_12.out) hb); have n1_ := Aside0.mk (Kd.V_below (by (with_reducible repeat (first | apply Kd.V_alloc | apply Kd.V_drewN | apply Kd.V_drew)); exact HO_229002.out) hb); have n2_ := Aside0.mk (Kd.V_below (by (with_reducible repeat (first | apply Kd.V_alloc | apply Kd.V_drewN | apply Kd.V_drew)); exact HO_231000.out) hb); have n3_ := Aside0.mk (Kd.V_lower (Kd.V_mono (ok' := fun k_ => (P2_ k_ ∨ w.heap.size ≤ k_) ∧ some k_ ≠ (u12 : Value).ownBlock ∧ k_ ≠ gb228 ∧ k_ ≠ gb230 ∧ k_ ≠ gb233) ho0 (fun k_ hk_ => ⟨Or.elim hk_ (fun hs_ => Or.elim hs_ (fun hs_ => hs_.1) (fun hs_ => hs_.1)) (fun hn_ => (.inr (Nat.le_trans (below_size (by repeat (first | (with_reducible first | exact HB.out | apply below_alloc | apply pw_below_drewN | apply below_drew1 | refine below_set ?_ GE228.out | refine below_set ?_ GE230.out | refine below_set ?_ GE233.out) | exact HB.out))) hn_))), Or.elim hk_ (fun hs_ => Or.elim hs_ (fun hs_ => hs_.2.1) (fun hs_ => hs_.2.1)) (fun hn_ => (Kd.fresh' (Kd.R_lt (by (with_reducible repeat (first | apply Kd.R_alloc | apply Kd.R_drewN | apply Kd.R_drew)); exact HO_12.out)) k_ hn_)), Or.elim hk_ (fun hs_ => Or.elim hs_ (fun hs_ => hs_.2.2.1) (fun hs_ => hs_.2.2.1)) (fun hn_ => (Kd.freshB (g := gb228) (o := .cells #[.int .i64 x229000_2, .int .u64 x229001_2, .slice Ao120 x229002_2.length co120] 27 (0, 0)) (by (with_reducible repeat (first | refine blk_drewN ?_ _ | refine blk_drew ?_ | refine blk_alloc ?_ _)); exact BK228.out) k_ hn_)), Or.elim hk_ (fun hs_ => Or.elim hs_ (fun hs_ => hs_.2.2.2.1) (fun hs_ => hs_.2.2.2.1)) (fun hn_ => (Kd.freshB (g := gb230) (o := .cells #[.slice Ao121 x231000_2.length co121, .int .i64 x231001_2] 33 (0, 0)) (by (with_reducible repeat (first | refine blk_drewN ?_ _ | refine blk_drew ?_ | refine blk_alloc ?_ _)); exact BK230.out) k_ hn_)), Or.elim hk_ (fun hs_ => Or.elim hs_ (fun hs_ => hs_.2.2.2.2) (fun hs_ => hs_.2.2.2.2)) (fun hn_ => (Kd.freshB (g := gb233) (o := .cells #[.string ((rd_T35 l1 x50_2).f0), .int .u64 ((rd_T35 l1 x50_2).f1)] 35 (0, 0)) (by (with_reducible repeat (first | refine blk_drewN ?_ _ | refine blk_drew ?_ | refine blk_alloc ?_ _)); exact BK233.out) k_ hn_))⟩)) (below_size (by repeat (first | (with_reducible first | exact HB.out | apply below_alloc | apply pw_below_drewN | apply below_drew1 | refine below_set ?_ GE228.out | refine below_set ?_ GE230.out | refine below_set ?_ GE233.out) | exact HB.out)))); have n4_ := Aside0.mk (Kd.V_lower (Kd.V_mono (ok' := fun k_ => (P2_ k_ ∨ w.heap.size ≤ k_) ∧ some k_ ≠ (u12 : Value).ownBlock ∧ k_ ≠ gb228 ∧ k_ ≠ gb230 ∧ k_ ≠ gb233) ho1 (fun k_ hk_ => ⟨Or.elim hk_ (fun hs_ => Or.elim hs_ (fun hs_ => hs_.1) (fun hs_ => hs_.1)) (fun hn_ => (.inr (Nat.le_trans (below_size (by repeat (first | (with_reducible first | exact HB.out | apply below_alloc | apply pw_below_drewN | apply below_drew1 | refine below_set ?_ GE228.out | refine below_set ?_ GE230.out | refine below_set ?_ GE233.out) | exact HB.out))) hn_))), Or.elim hk_ (fun hs_ => Or.elim hs_ (fun hs_ => hs_.2.1) (fun hs_ => hs_.2.1)) (fun hn_ => (Kd.fresh' (Kd.R_lt (by (with_reducible repeat (first | apply Kd.R_alloc | apply Kd.R_drewN | apply Kd.R_drew)); exact HO_12.out)) k_ hn_)), Or.elim hk_ (fun hs_ => Or.elim hs_ (fun hs_ => hs_.2.2.1) (fun hs_ => hs_.2.2.1)) (fun hn_ => (Kd.freshB (g := gb228) (o := .cells #[.int .i64 x229000_2, .int .u64 x229001_2, .slice Ao120 x229002_2.length co120] 27 (0, 0)) (by (with_reducible repeat (first | refine blk_drewN ?_ _ | refine blk_drew ?_ | refine blk_alloc ?_ _)); exact BK228.out) k_ hn_)), Or.elim hk_ (fun hs_ => Or.elim hs_ (fun hs_ => hs_.2.2.2.1) (fun hs_ => hs_.2.2.2.1)) (fun hn_ => (Kd.freshB (g := gb230) (o := .cells #[.slice Ao121 x231000_2.length co121, .int .i64 x231001_2] 33 (0, 0)) (by (with_reducible repeat (first | refine blk_drewN ?_ _ | refine blk_drew ?_ | refine blk_alloc ?_ _)); exact BK230.out) k_ hn_)), Or.elim hk_ (fun hs_ => Or.elim hs_ (fun hs_ => hs_.2.2.2.2) (fun hs_ => hs_.2.2.2.2)) (fun hn_ => (Kd.freshB (g := gb233) (o := .cells #[.string ((rd_T35 l1 x50_2).f0), .int .u64 ((rd_T35 l1 x50_2).f1)] 35 (0, 0)) (by (with_reducible repeat (first | refine blk_drewN ?_ _ | refine blk_drew ?_ | refine blk_alloc ?_ _)); exact BK233.out) k_ hn_))⟩)) (below_size (by repeat (first | (with_reducible first | exact HB.out | apply below_alloc | apply pw_below_drewN | apply below_drew1 | refine below_set ?_ GE228.out | refine below_set ?_ GE230.out | refine below_set ?_ GE233.out) | exact HB.out)))); have n5_ := Aside0.mk (blk_below (g := gb228) (o := .cells #[.int .i64 x229000_2, .int .u64 x229001_2, .slice Ao120 x229002_2.length co120] 27 (0, 0)) (by (with_reducible repeat (first | refine blk_drewN ?_ _ | refine blk_drew ?_ | refine blk_alloc ?_ _)); exact BK228.out) hb); have n6_ := Aside0.mk (blk_below (g := gb230) (o := .cells #[.slice Ao121 x231000_2.length co121, .int .i64 x231001_2] 33 (0, 0)) (by (with_reducible repeat (first | refine blk_drewN ?_ _ | refine blk_drew ?_ | refine blk_alloc ?_ _)); exact BK230.out) hb); have n7_ := Aside0.mk (blk_below (g := gb233) (o := .cells #[.string ((rd_T35 l1 x50_2).f0), .int .u64 ((rd_T35 l1 x50_2).f1)] 35 (0, 0)) (by (with_reducible repeat (first | refine blk_drewN ?_ _ | refine blk_drew ?_ | refine blk_alloc ?_ _)); exact BK233.out) hb); have n8_ := Aside0.mk (below_step (by repeat (first | (with_reducible first | exact HB.out | apply below_alloc | apply pw_below_drewN | apply below_drew1 | refine below_set ?_ GE228.out | refine below_set ?_ GE230.out | refine below_set ?_ GE233.out) | exact HB.out)) hb); clear HO_12; clear HO_229002; clear HO_231000; clear BK228; clear BK230; clear BK233; clear HB; have HO_12 := n0_; have HO_229002 := n1_; have HO_231000 := n2_; have HO239 := n3_; have HO242 := n4_; have BK228 := n5_; have BK230 := n6_; have BK233 := n7_; have HB := n8_; clear n0_ n1_ n2_ n3_ n4_ n5_ n6_ n7_ n8_; (try clear hb); (try clear hb2); (try clear hk); (try clear hi); (try clear ho0); (try clear ho1)) | ((with_reducible refine gate_dst (N := 15) rfl ?_); (try (refine gate_guard (by rfl) ?_; dsimp only)); refine box_event ?hg (N := 15) ?hd (cs := #[.int .i64 0, .int .u64 0, .slice none 0 0]) (t := 27) ?hr ?_; (case hd => rfl); (case hg => rfl); (case hr => first | (go_simp; done) | (go_simp; rfl)); intro gb245 hg w123 hbox hb; have n0_ := Aside0.mk (Kd.R_below (by (with_reducible repeat (first | apply Kd.R_alloc | apply Kd.R_drewN | apply Kd.R_drew)); exact HO_12.out) hb); have n1_ := Aside0.mk (Kd.V_below (Kd.V_elderB (by (with_reducible repeat (first | apply Kd.V_alloc | apply Kd.V_drewN | apply Kd.V_drew)); exact HO_229002.out) gb245 (Nat.le_of_eq hg.symm)) hb); have n2_ := Aside0.mk (Kd.V_below (Kd.V_elderB (by (with_reducible repeat (first | apply Kd.V_alloc | apply Kd.V_drewN | apply Kd.V_drew)); exact HO_231000.out) gb245 (Nat.le_of_eq hg.symm)) hb); have n3_ := Aside0.mk (Kd.V_below (Kd.V_elderB (by (with_reducible repeat (first | apply Kd.V_alloc | apply Kd.V_drewN | apply Kd.V_drew)); exact HO239.out) gb245 (Nat.le_of_eq hg.symm)) hb); have n4_ := Aside0.mk (Kd.V_below (Kd.V_elderB (by (with_reducible repeat (first | apply Kd.V_alloc | apply Kd.V_drewN | apply Kd.V_drew)); exact HO242.out) gb245 (Nat.le_of_eq hg.symm)) hb); have n5_ := Aside0.mk (blk_below (g := gb228) (o := .cells #[.int .i64 x229000_2, .int .u64 x229001_2, .slice Ao120 x229002_2.length co120] 27 (0, 0)) (by (with_reducible repeat (first | refine blk_drewN ?_ _ | refine blk_drew ?_ | refine blk_alloc ?_ _)); exact BK228.out) hb); have n6_ := Aside0.mk (blk_below (g := gb230) (o := .cells #[.slice Ao121 x231000_2.length co121, .int .i64 x231001_2] 33 (0, 0)) (by (with_reducible repeat (first | refine blk_drewN ?_ _ | refine blk_drew ?_ | refine blk_alloc ?_ _)); exact BK230.out) hb); have n7_ := Aside0.mk (blk_below (g := gb233) (o := .cells #[.string ((rd_T35 l1 x50_2).f0), .int .u64 ((rd_T35 l1 x50_2).f1)] 35 (0, 0)) (by (with_reducible repeat (first | refine blk_drewN ?_ _ | refine blk_drew ?_ | refine blk_alloc ?_ _)); exact BK233.out) hb); have n8_ := Aside0.mk (below_step (by repeat (first | (with_reducible first | exact HB.out | apply below_alloc | apply pw_below_drewN | apply below_drew1 | refine below_set ?_ GE228.out | refine below_set ?_ GE230.out | refine below_set ?_ GE233.out) | exact HB.out)) hb); have n9_ := Aside0.mk (hbox); have n10_ := Aside0.mk ((by rw [hg]; exact (below_size (by repeat (first | (with_reducible first | exact HB.out | apply below_alloc | apply pw_below_drewN | apply below_drew1 | refine below_set ?_ GE228.out | refine below_set ?_ GE230.out | refine below_set ?_ GE233.out) | exact HB.out))) : w.heap.size ≤ gb245)); have n11_ := Aside0.mk ((by rw [hg]; exact (below_size (by repeat (first | (with_reducible first | exact HB.out | apply below_alloc | apply pw_below_drewN | apply below_drew1 | refine below_set ?_ GE228.out | refine below_set ?_ GE230.out | refine below_set ?_ GE233.out) | exact HB.out))) : w.heap.size ≤ gb245)); have n12_ := Aside0.mk ((by rw [hg]; exact Nat.ne_of_lt (blk_lt (g := gb228) (o := .cells #[.int .i64 x229000_2, .int .u64 x229001_2, .slice Ao120 x229002_2.length co120] 27 (0, 0)) (by (with_reducible repeat (first | refine blk_drewN ?_ _ | refine blk_drew ?_ | refine blk_alloc ?_ _)); exact BK228.out)) : gb228 ≠ gb245)); have n13_ := Aside0.mk ((by rw [hg]; exact Nat.ne_of_gt (blk_lt (g := gb228) (o := .cells #[.int .i64 x229000_2, .int .u64 x229001_2, .slice Ao120 x229002_2.length co120] 27 (0, 0)) (by (with_reducible repeat (first | refine blk_drewN ?_ _ | refine blk_drew ?_ | refine blk_alloc ?_ _)); exact BK228.out)) : gb245 ≠ gb228)); have n14_ := Aside0.mk ((by rw [hg]; exact Nat.ne_of_lt (blk_lt (g := gb230) (o := .cells #[.slice Ao121 x231000_2.length co121, .int .i64 x231001_2] 33 (0, 0)) (by (with_reducible repeat (first | refine blk_drewN ?_ _ | refine blk_drew ?_ | refine blk_alloc ?_ _)); exact BK230.out)) : gb230 ≠ gb245)); have n15_ := Aside0.mk ((by rw [hg]; exact Nat.ne_of_gt (blk_lt (g := gb230) (o := .cells #[.slice Ao121 x231000_2.length co121, .int .i64 x231001_2] 33 (0, 0)) (by (with_reducible repeat (first | refine blk_drewN ?_ _ | refine blk_drew ?_ | refine blk_alloc ?_ _)); exact BK230.out)) : gb245 ≠ gb230)); have n16_ := Aside0.mk ((by rw [hg]; exact Nat.ne_of_lt (blk_lt (g := gb233) (o := .cells #[.string ((rd_T35 l1 x50_2).f0), .int .u64 ((rd_T35 l1 x50_2).f1)] 35 (0, 0)) (by (with_reducible repeat (first | refine blk_drewN ?_ _ | refine blk_drew ?_ | refine blk_alloc ?_ _)); exact BK233.out)) : gb233 ≠ gb245)); have n17_ := Aside0.mk ((by rw [hg]; exact Nat.ne_of_gt (blk_lt (g := gb233) (o := .cells #[.string ((rd_T35 l1 x50_2).f0), .int .u64 ((rd_T35 l1 x50_2).f1)] 35 (0, 0)) (by (with_reducible repeat (first | refine blk_drewN ?_ _ | refine blk_drew ?_ | refine blk_alloc ?_ _)); exact BK233.out)) : gb245 ≠ gb233)); clear HO_12; clear HO_229002; clear HO_231000; clear HO239; clear HO242; clear BK228; clear BK230; clear BK233; clear HB; have HO_12 := n0_; have HO_229002 := n1_; have HO_231000 := n2_; have HO239 := n3_; have HO242 := n4_; have BK228 := n5_; have BK230 := n6_; have BK233 := n7_; have HB := n8_; have BK245 := n9_; have GW245 := n10_; have GE245 := n11_; have NB228_245 := n12_; have NB245_228 := n13_; have NB230_245 := n14_; have NB245_230 := n15_; have NB233_245 := n16_; have NB245_233 := n17_; clear n0_ n1_ n2_ n3_ n4_ n5_ n6_ n7_ n8_ n9_ n10_ n11_ n12_ n13_ n14_ n15_ n16_ n17_; clear hb hbox hg) | ((with_reducible refine gate_dst (N := 16) rfl ?_); (try (refine gate_guard (by rfl) ?_; dsimp only)); refine box_event ?hg (N := 16) ?hd (cs := #[.slice none 0 0, .int .i64 0]) (t := 33) ?hr ?_; (case hd => rfl); (case hg => rfl); (case hr => first | (go_simp; done) | (go_simp; rfl)); intro gb246 hg w124 hbox hb; have n0_ := Aside0.mk (Kd.R_below (by (with_reducible repeat (first | apply Kd.R_alloc | apply Kd.R_drewN | apply Kd.R_drew)); exact HO_12.out) hb); have n1_ := Aside0.mk (Kd.V_below (Kd.V_elderB (by (with_reducible repeat (first | apply Kd.V_alloc | apply Kd.V_drewN | apply Kd.V_drew)); exact HO_229002.out) gb246 (Nat.le_of_eq hg.symm)) hb); have n2_ := Aside0.mk (Kd.V_below (Kd.V_elderB (by (with_reducible repeat (first | apply Kd.V_alloc | apply Kd.V_drewN | apply Kd.V_drew)); exact HO_231000.out) gb246 (Nat.le_of_eq hg.symm)) hb); have n3_ := Aside0.mk (Kd.V_below (Kd.V_elderB (by (with_reducible repeat (first | apply Kd.V_alloc | apply Kd.V_drewN | apply Kd.V_drew)); exact HO239.out) gb246 (Nat.le_of_eq hg.symm)) hb); have n4_ := Aside0.mk (Kd.V_below (Kd.V_elderB (by (with_reducible repeat (first | apply Kd.V_alloc | apply Kd.V_drewN | apply Kd.V_drew)); exact HO242.out) gb246 (Nat.le_of_eq hg.symm)) hb); have n5_ := Aside0.mk (blk_below (g := gb228) (o := .cells #[.int .i64 x229000_2, .int .u64 x229001_2, .slice Ao120 x229002_2.length co120] 27 (0, 0)) (by (with_reducible repeat (first | refine blk_drewN ?_ _ | refine blk_drew ?_ | refine blk_alloc ?_ _)); exact BK228.out) hb); have n6_ := Aside0.mk (blk_below (g := gb230) (o := .cells #[.slice Ao121 x231000_2.length co121, .int .i64 x231001_2] 33 (0, 0)) (by (with_reducible repeat (first | refine blk_drewN ?_ _ | refine blk_drew ?_ | refine blk_alloc ?_ _)); exact BK230.out) hb); have n7_ := Aside0.mk (blk_below (g := gb233) (o := .cells #[.string ((rd_T35 l1 x50_2).f0), .int .u64 ((rd_T35 l1 x50_2).f1)] 35 (0, 0)) (by (with_reducible repeat (first | refine blk_drewN ?_ _ | refine blk_drew ?_ | refine blk_alloc ?_ _)); exact BK233.out) hb); have n8_ := Aside0.mk (blk_below (g := gb245) (o := .cells #[.int .i64 0, .int .u64 0, .slice none 0 0] 27 (0, 0)) (by (with_reducible repeat (first | refine blk_drewN ?_ _ | refine blk_drew ?_ | refine blk_alloc ?_ _)); exact BK245.out) hb); have n9_ := Aside0.mk (below_step (by repeat (first | (with_reducible first | exact HB.out | apply below_alloc | apply pw_below_drewN | apply below_drew1 | refine below_set ?_ GE228.out | refine below_set ?_ GE230.out | refine below_set ?_ GE233.out | refine below_set ?_ GE245.out) | exact HB.out)) hb); have n10_ := Aside0.mk (hbox); have n11_ := Aside0.mk ((by rw [hg]; exact (below_size (by repeat (first | (with_reducible first | exact HB.out | apply below_alloc | apply pw_below_drewN | apply below_drew1 | refine below_set ?_ GE228.out | refine below_set ?_ GE230.out | refine below_set ?_ GE233.out | refine below_set ?_ GE245.out) | exact HB.out))) : w.heap.size ≤ gb246)); have n12_ := Aside0.mk ((by rw [hg]; exact (below_size (by repeat (first | (with_reducible first | exact HB.out | apply below_alloc | apply pw_below_drewN | apply below_drew1 | refine below_set ?_ GE228.out | refine below_set ?_ GE230.out | refine below_set ?_ GE233.out | refine below_set ?_ GE245.out) | exact HB.out))) : w.heap.size ≤ gb246)); have n13_ := Aside0.mk ((by rw [hg]; exact Nat.ne_of_lt (blk_lt (g := gb228) (o := .cells #[.int .i64 x229000_2, .int .u64 x229001_2, .slice Ao120 x229002_2.length co120] 27 (0, 0)) (by (with_reducible repeat (first | refine blk_drewN ?_ _ | refine blk_drew ?_ | refine blk_alloc ?_ _)); exact BK228.out)) : gb228 ≠ gb246)); have n14_ := Aside0.mk ((by rw [hg]; exact Nat.ne_of_gt (blk_lt (g := gb228) (o := .cells #[.int .i64 x229000_2, .int .u64 x229001_2, .slice Ao120 x229002_2.length co120] 27 (0, 0)) (by (with_reducible repeat (first | refine blk_drewN ?_ _ | refine blk_drew ?_ | refine blk_alloc ?_ _)); exact BK228.out)) : gb246 ≠ gb228)); have n15_ := Aside0.mk ((by rw [hg]; exact Nat.ne_of_lt (blk_lt (g := gb230) (o := .cells #[.slice Ao121 x231000_2.length co121, .int .i64 x231001_2] 33 (0, 0)) (by (with_reducible repeat (first | refine blk_drewN ?_ _ | refine blk_drew ?_ | refine blk_alloc ?_ _)); exact BK230.out)) : gb230 ≠ gb246)); have n16_ := Aside0.mk ((by rw [hg]; exact Nat.ne_of_gt (blk_lt (g := gb230) (o := .cells #[.slice Ao121 x231000_2.length co121, .int .i64 x231001_2] 33 (0, 0)) (by (with_reducible repeat (first | refine blk_drewN ?_ _ | refine blk_drew ?_ | refine blk_alloc ?_ _)); exact BK230.out)) : gb246 ≠ gb230)); have n17_ := Aside0.mk ((by rw [hg]; exact Nat.ne_of_lt (blk_lt (g := gb233) (o := .cells #[.string ((rd_T35 l1 x50_2).f0), .int .u64 ((rd_T35 l1 x50_2).f1)] 35 (0, 0)) (by (with_reducible repeat (first | refine blk_drewN ?_ _ | refine blk_drew ?_ | refine blk_alloc ?_ _)); exact BK233.out)) : gb233 ≠ gb246)); have n18_ := Aside0.mk ((by rw [hg]; exact Nat.ne_of_gt (blk_lt (g := gb233) (o := .cells #[.string ((rd_T35 l1 x50_2).f0), .int .u64 ((rd_T35 l1 x50_2).f1)] 35 (0, 0)) (by (with_reducible repeat (first | refine blk_drewN ?_ _ | refine blk_drew ?_ | refine blk_alloc ?_ _)); exact BK233.out)) : gb246 ≠ gb233)); have n19_ := Aside0.mk ((by rw [hg]; exact Nat.ne_of_lt (blk_lt (g := gb245) (o := .cells #[.int .i64 0, .int .u64 0, .slice none 0 0] 27 (0, 0)) (by (with_reducible repeat (first | refine blk_drewN ?_ _ | refine blk_drew ?_ | refine blk_alloc ?_ _)); exact BK245.out)) : gb245 ≠ gb246)); have n20_ := Aside0.mk ((by rw [hg]; exact Nat.ne_of_gt (blk_lt (g := gb245) (o := .cells #[.int .i64 0, .int .u64 0, .slice none 0 0] 27 (0, 0)) (by (with_reducible repeat (first | refine blk_drewN ?_ _ | refine blk_drew ?_ | refine blk_alloc ?_ _)); exact BK245.out)) : gb246 ≠ gb245)); clear HO_12; clear HO_229002; clear HO_231000; clear HO239; clear HO242; clear BK228; clear BK230; clear BK233; clear BK245; clear HB; have HO_12 := n0_; have HO_229002 := n1_; have HO_231000 := n2_; have HO239 := n3_; have HO242 := n4_; have BK228 := n5_; have BK230 := n6_; have BK233 := n7_; have BK245 := n8_; have HB := n9_; have BK246 := n10_; have GW246 := n11_; have GE246 := n12_; have NB228_246 := n13_; have NB246_228 := n14_; have NB230_246 := n15_; have NB246_230 := n16_; have NB233_246 := n17_; have NB246_233 := n18_; have NB245_246 := n19_; have NB246_245 := n20_; clear n0_ n1_ n2_ n3_ n4_ n5_ n6_ n7_ n8_ n9_ n10_ n11_ n12_ n13_ n14_ n15_ n16_ n17_ n18_ n19_ n20_; clear hb hbox hg; have hnb125 := NB245_228.out; have hnc125 := NB228_245.out; have hnb126 := NB245_230.out; have hnc126 := NB230_245.out; have hnb127 := NB245_233.out; have hnc127 := NB233_245.out; have hnb128 := NB245_246.out; have hnc128 := NB246_245.out; have hcz129_0 : w124.cell? ⟨gb245, 0, none⟩ = some (.int .i64 0) := (blk_cell BK245.out 0).trans rfl; have hcz129_1 : w124.cell? ⟨gb245, 1, none⟩ = some (.int .u64 0) := (blk_cell BK245.out 1).trans rfl; have hcz129_2 : w124.cell? ⟨gb245, 2, none⟩ = some (.slice none 0 0) := (blk_cell BK245.out 2).trans rfl; have hfz129_0 := blk_frozen BK245.out 0; have hfz129_1 := blk_frozen BK245.out 1; have hfz129_2 := blk_frozen BK245.out 2; obtain ⟨Ao130, co130, eo130⟩ := Kd.V_slice HO239.out; subst eo130; obtain ⟨Ao131, co131, eo131⟩ := Kd.V_slice HO242.out; subst eo131; have hnb132 := NB246_228.out; have hnc132 := NB228_246.out; have hnb133 := NB246_230.out; have hnc133 := NB230_246.out; have hnb134 := NB246_233.out; have hnc134 := NB233_246.out; have hcz135_0 : w124.cell? ⟨gb246, 0, none⟩ = some (.slice none 0 0) := (blk_cell BK246.out 0).trans rfl; have hcz135_1 : w124.cell? ⟨gb246, 1, none⟩ = some (.int .i64 0) := (blk_cell BK246.out 1).trans rfl; have hfz135_0 := blk_frozen BK246.out 0; have hfz135_1 := blk_frozen BK246.out 1))
                have n0_ : Aside0 (Kd.R Kd.string 9 (((((w124.setCell ⟨gb245, 0, none⟩ (.int .i64 t235)).setCell ⟨gb245, 1, none⟩ (.int .u64 t236)).setCell ⟨gb245, 2, none⟩ (.slice Ao130 t237.length co130)).setCell ⟨gb246, 0, none⟩ (.slice Ao131 t240.length co131)).setCell ⟨gb246, 1, none⟩ (.int .i64 t243)) w.heap.size (fun k_ => (w.heap.size ≤ k_)) u12 x12_2) := ⟨by (with_reducible repeat (first | apply Kd.R_alloc | apply Kd.R_drewN | apply Kd.R_drew)); exact Kd.R_mono (Kd.R_far (p := ⟨gb246, 1, none⟩) (Kd.R_far (p := ⟨gb246, 0, none⟩) (Kd.R_far (p := ⟨gb245, 2, none⟩) (Kd.R_far (p := ⟨gb245, 1, none⟩) (Kd.R_far (p := ⟨gb245, 0, none⟩) (Kd.R_types (Kd.R_types HO_12.out BK245.out (by decide)) BK246.out (by decide)) (fun _ hk => hk.1.2) (.int .i64 t235)) (fun _ hk => hk.1.2) (.int .u64 t236)) (fun _ hk => hk.1.2) (.slice Ao130 t237.length co130)) (fun _ hk => hk.2) (.slice Ao131 t240.length co131)) (fun _ hk => hk.2) (.int .i64 t243)) (fun _ hk => hk.1.1)⟩
                have n1_ : Aside0 (Kd.V Kd.string 9 (((((w124.setCell ⟨gb245, 0, none⟩ (.int .i64 t235)).setCell ⟨gb245, 1, none⟩ (.int .u64 t236)).setCell ⟨gb245, 2, none⟩ (.slice Ao130 t237.length co130)).setCell ⟨gb246, 0, none⟩ (.slice Ao131 t240.length co131)).setCell ⟨gb246, 1, none⟩ (.int .i64 t243)) w.heap.size (fun k_ => (P2_ k_ ∨ w.heap.size ≤ k_) ∧ some k_ ≠ (u12 : Value).ownBlock ∧ k_ ≠ gb228 ∧ k_ ≠ gb230 ∧ k_ ≠ gb233 ∧ k_ ≠ gb245 ∧ k_ ≠ gb246) (.slice Ao120 x229002_2.length co120) x229002_2) := ⟨by (with_reducible repeat (first | apply Kd.V_alloc | apply Kd.V_drewN | apply Kd.V_drew)); exact Kd.V_mono (Kd.V_far (p := ⟨gb246, 1, none⟩) (Kd.V_far (p := ⟨gb246, 0, none⟩) (Kd.V_far (p := ⟨gb245, 2, none⟩) (Kd.V_far (p := ⟨gb245, 1, none⟩) (Kd.V_far (p := ⟨gb245, 0, none⟩) (Kd.V_mono (Kd.V_mono HO_229002.out (fun k_ hk => (⟨hk, hk.1.2⟩ : _ ∧ k_ ≠ gb245))) (fun k_ hk => (⟨hk, hk.1.2⟩ : _ ∧ k_ ≠ gb246))) (fun _ hk => hk.1.2) (.int .i64 t235)) (fun _ hk => hk.1.2) (.int .u64 t236)) (fun _ hk => hk.1.2) (.slice Ao130 t237.length co130)) (fun _ hk => hk.2) (.slice Ao131 t240.length co131)) (fun _ hk => hk.2) (.int .i64 t243)) (fun _ hk => ⟨hk.1.1.1.1.1, ⟨hk.1.1.1.1.2.1, ⟨hk.1.1.1.1.2.2.1, ⟨hk.1.1.1.1.2.2.2.1, ⟨hk.1.1.1.1.2.2.2.2, ⟨hk.1.1.1.2, hk.1.1.2⟩⟩⟩⟩⟩⟩)⟩
                have n2_ : Aside0 (Kd.V (Kd.int .u64) 24 (((((w124.setCell ⟨gb245, 0, none⟩ (.int .i64 t235)).setCell ⟨gb245, 1, none⟩ (.int .u64 t236)).setCell ⟨gb245, 2, none⟩ (.slice Ao130 t237.length co130)).setCell ⟨gb246, 0, none⟩ (.slice Ao131 t240.length co131)).setCell ⟨gb246, 1, none⟩ (.int .i64 t243)) w.heap.size (fun k_ => (P2_ k_ ∨ w.heap.size ≤ k_) ∧ some k_ ≠ (u12 : Value).ownBlock ∧ k_ ≠ gb228 ∧ k_ ≠ gb230 ∧ k_ ≠ gb233 ∧ k_ ≠ gb245 ∧ k_ ≠ gb246) (.slice Ao121 x231000_2.length co121) x231000_2) := ⟨by (with_reducible repeat (first | apply Kd.V_alloc | apply Kd.V_drewN | apply Kd.V_drew)); exact Kd.V_mono (Kd.V_far (p := ⟨gb246, 1, none⟩) (Kd.V_far (p := ⟨gb246, 0, none⟩) (Kd.V_far (p := ⟨gb245, 2, none⟩) (Kd.V_far (p := ⟨gb245, 1, none⟩) (Kd.V_far (p := ⟨gb245, 0, none⟩) (Kd.V_mono (Kd.V_mono HO_231000.out (fun k_ hk => (⟨hk, hk.1.2⟩ : _ ∧ k_ ≠ gb245))) (fun k_ hk => (⟨hk, hk.1.2⟩ : _ ∧ k_ ≠ gb246))) (fun _ hk => hk.1.2) (.int .i64 t235)) (fun _ hk => hk.1.2) (.int .u64 t236)) (fun _ hk => hk.1.2) (.slice Ao130 t237.length co130)) (fun _ hk => hk.2) (.slice Ao131 t240.length co131)) (fun _ hk => hk.2) (.int .i64 t243)) (fun _ hk => ⟨hk.1.1.1.1.1, ⟨hk.1.1.1.1.2.1, ⟨hk.1.1.1.1.2.2.1, ⟨hk.1.1.1.1.2.2.2.1, ⟨hk.1.1.1.1.2.2.2.2, ⟨hk.1.1.1.2, hk.1.1.2⟩⟩⟩⟩⟩⟩)⟩
                have n3_ : Aside0 (Kd.V Kd.string 9 (((((w124.setCell ⟨gb245, 0, none⟩ (.int .i64 t235)).setCell ⟨gb245, 1, none⟩ (.int .u64 t236)).setCell ⟨gb245, 2, none⟩ (.slice Ao130 t237.length co130)).setCell ⟨gb246, 0, none⟩ (.slice Ao131 t240.length co131)).setCell ⟨gb246, 1, none⟩ (.int .i64 t243)) w.heap.size (fun k_ => (P2_ k_ ∨ w.heap.size ≤ k_) ∧ some k_ ≠ (u12 : Value).ownBlock ∧ k_ ≠ gb228 ∧ k_ ≠ gb230 ∧ k_ ≠ gb233 ∧ k_ ≠ gb245 ∧ k_ ≠ gb246) (.slice Ao130 t237.length co130) t237) := ⟨by (with_reducible repeat (first | apply Kd.V_alloc | apply Kd.V_drewN | apply Kd.V_drew)); exact Kd.V_mono (Kd.V_far (p := ⟨gb246, 1, none⟩) (Kd.V_far (p := ⟨gb246, 0, none⟩) (Kd.V_far (p := ⟨gb245, 2, none⟩) (Kd.V_far (p := ⟨gb245, 1, none⟩) (Kd.V_far (p := ⟨gb245, 0, none⟩) (Kd.V_mono (Kd.V_mono HO239.out (fun k_ hk => (⟨hk, hk.1.2⟩ : _ ∧ k_ ≠ gb245))) (fun k_ hk => (⟨hk, hk.1.2⟩ : _ ∧ k_ ≠ gb246))) (fun _ hk => hk.1.2) (.int .i64 t235)) (fun _ hk => hk.1.2) (.int .u64 t236)) (fun _ hk => hk.1.2) (.slice Ao130 t237.length co130)) (fun _ hk => hk.2) (.slice Ao131 t240.length co131)) (fun _ hk => hk.2) (.int .i64 t243)) (fun _ hk => ⟨hk.1.1.1.1.1, ⟨hk.1.1.1.1.2.1, ⟨hk.1.1.1.1.2.2.1, ⟨hk.1.1.1.1.2.2.2.1, ⟨hk.1.1.1.1.2.2.2.2, ⟨hk.1.1.1.2, hk.1.1.2⟩⟩⟩⟩⟩⟩)⟩
                have n4_ : Aside0 (Kd.V (Kd.int .u64) 24 (((((w124.setCell ⟨gb245, 0, none⟩ (.int .i64 t235)).setCell ⟨gb245, 1, none⟩ (.int .u64 t236)).setCell ⟨gb245, 2, none⟩ (.slice Ao130 t237.length co130)).setCell ⟨gb246, 0, none⟩ (.slice Ao131 t240.length co131)).setCell ⟨gb246, 1, none⟩ (.int .i64 t243)) w.heap.size (fun k_ => (P2_ k_ ∨ w.heap.size ≤ k_) ∧ some k_ ≠ (u12 : Value).ownBlock ∧ k_ ≠ gb228 ∧ k_ ≠ gb230 ∧ k_ ≠ gb233 ∧ k_ ≠ gb245 ∧ k_ ≠ gb246) (.slice Ao131 t240.length co131) t240) := ⟨by (with_reducible repeat (first | apply Kd.V_alloc | apply Kd.V_drewN | apply Kd.V_drew)); exact Kd.V_mono (Kd.V_far (p := ⟨gb246, 1, none⟩) (Kd.V_far (p := ⟨gb246, 0, none⟩) (Kd.V_far (p := ⟨gb245, 2, none⟩) (Kd.V_far (p := ⟨gb245, 1, none⟩) (Kd.V_far (p := ⟨gb245, 0, none⟩) (Kd.V_mono (Kd.V_mono HO242.out (fun k_ hk => (⟨hk, hk.1.2⟩ : _ ∧ k_ ≠ gb245))) (fun k_ hk => (⟨hk, hk.1.2⟩ : _ ∧ k_ ≠ gb246))) (fun _ hk => hk.1.2) (.int .i64 t235)) (fun _ hk => hk.1.2) (.int .u64 t236)) (fun _ hk => hk.1.2) (.slice Ao130 t237.length co130)) (fun _ hk => hk.2) (.slice Ao131 t240.length co131)) (fun _ hk => hk.2) (.int .i64 t243)) (fun _ hk => ⟨hk.1.1.1.1.1, ⟨hk.1.1.1.1.2.1, ⟨hk.1.1.1.1.2.2.1, ⟨hk.1.1.1.1.2.2.2.1, ⟨hk.1.1.1.1.2.2.2.2, ⟨hk.1.1.1.2, hk.1.1.2⟩⟩⟩⟩⟩⟩)⟩
                have n5_ : Aside0 ((((((w124.setCell ⟨gb245, 0, none⟩ (.int .i64 t235)).setCell ⟨gb245, 1, none⟩ (.int .u64 t236)).setCell ⟨gb245, 2, none⟩ (.slice Ao130 t237.length co130)).setCell ⟨gb246, 0, none⟩ (.slice Ao131 t240.length co131)).setCell ⟨gb246, 1, none⟩ (.int .i64 t243)).heap[gb228]? = some (.cells #[.int .i64 x229000_2, .int .u64 x229001_2, .slice Ao120 x229002_2.length co120] 27 (0, 0))) := ⟨by (with_reducible repeat (first | refine blk_drewN ?_ _ | refine blk_drew ?_ | refine blk_alloc ?_ _)); refine blk_far ?_ NB228_246.out _; (with_reducible repeat (first | refine blk_drewN ?_ _ | refine blk_drew ?_ | refine blk_alloc ?_ _)); refine blk_far ?_ NB228_246.out _; (with_reducible repeat (first | refine blk_drewN ?_ _ | refine blk_drew ?_ | refine blk_alloc ?_ _)); refine blk_far ?_ NB228_245.out _; (with_reducible repeat (first | refine blk_drewN ?_ _ | refine blk_drew ?_ | refine blk_alloc ?_ _)); refine blk_far ?_ NB228_245.out _; (with_reducible repeat (first | refine blk_drewN ?_ _ | refine blk_drew ?_ | refine blk_alloc ?_ _)); refine blk_far ?_ NB228_245.out _; (with_reducible repeat (first | refine blk_drewN ?_ _ | refine blk_drew ?_ | refine blk_alloc ?_ _)); exact BK228.out⟩
                have n6_ : Aside0 ((((((w124.setCell ⟨gb245, 0, none⟩ (.int .i64 t235)).setCell ⟨gb245, 1, none⟩ (.int .u64 t236)).setCell ⟨gb245, 2, none⟩ (.slice Ao130 t237.length co130)).setCell ⟨gb246, 0, none⟩ (.slice Ao131 t240.length co131)).setCell ⟨gb246, 1, none⟩ (.int .i64 t243)).heap[gb230]? = some (.cells #[.slice Ao121 x231000_2.length co121, .int .i64 x231001_2] 33 (0, 0))) := ⟨by (with_reducible repeat (first | refine blk_drewN ?_ _ | refine blk_drew ?_ | refine blk_alloc ?_ _)); refine blk_far ?_ NB230_246.out _; (with_reducible repeat (first | refine blk_drewN ?_ _ | refine blk_drew ?_ | refine blk_alloc ?_ _)); refine blk_far ?_ NB230_246.out _; (with_reducible repeat (first | refine blk_drewN ?_ _ | refine blk_drew ?_ | refine blk_alloc ?_ _)); refine blk_far ?_ NB230_245.out _; (with_reducible repeat (first | refine blk_drewN ?_ _ | refine blk_drew ?_ | refine blk_alloc ?_ _)); refine blk_far ?_ NB230_245.out _; (with_reducible repeat (first | refine blk_drewN ?_ _ | refine blk_drew ?_ | refine blk_alloc ?_ _)); refine blk_far ?_ NB230_245.out _; (with_reducible repeat (first | refine blk_drewN ?_ _ | refine blk_drew ?_ | refine blk_alloc ?_ _)); exact BK230.out⟩
                have n7_ : Aside0 ((((((w124.setCell ⟨gb245, 0, none⟩ (.int .i64 t235)).setCell ⟨gb245, 1, none⟩ (.int .u64 t236)).setCell ⟨gb245, 2, none⟩ (.slice Ao130 t237.length co130)).setCell ⟨gb246, 0, none⟩ (.slice Ao131 t240.length co131)).setCell ⟨gb246, 1, none⟩ (.int .i64 t243)).heap[gb233]? = some (.cells #[.string ((rd_T35 l1 x50_2).f0), .int .u64 ((rd_T35 l1 x50_2).f1)] 35 (0, 0))) := ⟨by (with_reducible repeat (first | refine blk_drewN ?_ _ | refine blk_drew ?_ | refine blk_alloc ?_ _)); refine blk_far ?_ NB233_246.out _; (with_reducible repeat (first | refine blk_drewN ?_ _ | refine blk_drew ?_ | refine blk_alloc ?_ _)); refine blk_far ?_ NB233_246.out _; (with_reducible repeat (first | refine blk_drewN ?_ _ | refine blk_drew ?_ | refine blk_alloc ?_ _)); refine blk_far ?_ NB233_245.out _; (with_reducible repeat (first | refine blk_drewN ?_ _ | refine blk_drew ?_ | refine blk_alloc ?_ _)); refine blk_far ?_ NB233_245.out _; (with_reducible repeat (first | refine blk_drewN ?_ _ | refine blk_drew ?_ | refine blk_alloc ?_ _)); refine blk_far ?_ NB233_245.out _; (with_reducible repeat (first | refine blk_drewN ?_ _ | refine blk_drew ?_ | refine blk_alloc ?_ _)); exact BK233.out⟩
                have n8_ : Aside0 ((((((w124.setCell ⟨gb245, 0, none⟩ (.int .i64 t235)).setCell ⟨gb245, 1, none⟩ (.int .u64 t236)).setCell ⟨gb245, 2, none⟩ (.slice Ao130 t237.length co130)).setCell ⟨gb246, 0, none⟩ (.slice Ao131 t240.length co131)).setCell ⟨gb246, 1, none⟩ (.int .i64 t243)).heap[gb245]? = some (.cells #[.int .i64 t235, .int .u64 t236, .slice Ao130 t237.length co130] 27 (0, 0))) := ⟨by (with_reducible repeat (first | refine blk_drewN ?_ _ | refine blk_drew ?_ | refine blk_alloc ?_ _)); refine blk_far ?_ NB245_246.out _; (with_reducible repeat (first | refine blk_drewN ?_ _ | refine blk_drew ?_ | refine blk_alloc ?_ _)); refine blk_far ?_ NB245_246.out _; (with_reducible repeat (first | refine blk_drewN ?_ _ | refine blk_drew ?_ | refine blk_alloc ?_ _)); refine blk_put (cs := #[.int .i64 t235, .int .u64 t236, .slice none 0 0]) ?_ 2 _ rfl; (with_reducible repeat (first | refine blk_drewN ?_ _ | refine blk_drew ?_ | refine blk_alloc ?_ _)); refine blk_put (cs := #[.int .i64 t235, .int .u64 0, .slice none 0 0]) ?_ 1 _ rfl; (with_reducible repeat (first | refine blk_drewN ?_ _ | refine blk_drew ?_ | refine blk_alloc ?_ _)); refine blk_put (cs := #[.int .i64 0, .int .u64 0, .slice none 0 0]) ?_ 0 _ rfl; (with_reducible repeat (first | refine blk_drewN ?_ _ | refine blk_drew ?_ | refine blk_alloc ?_ _)); exact BK245.out⟩
                have n9_ : Aside0 ((((((w124.setCell ⟨gb245, 0, none⟩ (.int .i64 t235)).setCell ⟨gb245, 1, none⟩ (.int .u64 t236)).setCell ⟨gb245, 2, none⟩ (.slice Ao130 t237.length co130)).setCell ⟨gb246, 0, none⟩ (.slice Ao131 t240.length co131)).setCell ⟨gb246, 1, none⟩ (.int .i64 t243)).heap[gb246]? = some (.cells #[.slice Ao131 t240.length co131, .int .i64 t243] 33 (0, 0))) := ⟨by (with_reducible repeat (first | refine blk_drewN ?_ _ | refine blk_drew ?_ | refine blk_alloc ?_ _)); refine blk_put (cs := #[.slice Ao131 t240.length co131, .int .i64 0]) ?_ 1 _ rfl; (with_reducible repeat (first | refine blk_drewN ?_ _ | refine blk_drew ?_ | refine blk_alloc ?_ _)); refine blk_put (cs := #[.slice none 0 0, .int .i64 0]) ?_ 0 _ rfl; (with_reducible repeat (first | refine blk_drewN ?_ _ | refine blk_drew ?_ | refine blk_alloc ?_ _)); refine blk_far ?_ NB246_245.out _; (with_reducible repeat (first | refine blk_drewN ?_ _ | refine blk_drew ?_ | refine blk_alloc ?_ _)); refine blk_far ?_ NB246_245.out _; (with_reducible repeat (first | refine blk_drewN ?_ _ | refine blk_drew ?_ | refine blk_alloc ?_ _)); refine blk_far ?_ NB246_245.out _; (with_reducible repeat (first | refine blk_drewN ?_ _ | refine blk_drew ?_ | refine blk_alloc ?_ _)); exact BK246.out⟩
                have n10_ : Aside0 (Below w.heap.size w (((((w124.setCell ⟨gb245, 0, none⟩ (.int .i64 t235)).setCell ⟨gb245, 1, none⟩ (.int .u64 t236)).setCell ⟨gb245, 2, none⟩ (.slice Ao130 t237.length co130)).setCell ⟨gb246, 0, none⟩ (.slice Ao131 t240.length co131)).setCell ⟨gb246, 1, none⟩ (.int .i64 t243))) := ⟨by repeat (first | (with_reducible first | exact HB.out | apply below_alloc | apply pw_below_drewN | apply below_drew1 | refine below_set ?_ GE228.out | refine below_set ?_ GE230.out | refine below_set ?_ GE233.out | refine below_set ?_ GE245.out | refine below_set ?_ GE246.out) | exact HB.out)⟩
                (try clear HO_12)
                (try clear HO_229002)
                (try clear HO_231000)
                (try clear HO239)
                (try clear HO242)
                (try clear BK228)
                (try clear BK230)
                (try clear BK233)
                (try clear BK245)
                (try clear BK246)
                (try clear HB)
                generalize (((((w124.setCell ⟨gb245, 0, none⟩ (.int .i64 t235)).setCell ⟨gb245, 1, none⟩ (.int .u64 t236)).setCell ⟨gb245, 2, none⟩ (.slice Ao130 t237.length co130)).setCell ⟨gb246, 0, none⟩ (.slice Ao131 t240.length co131)).setCell ⟨gb246, 1, none⟩ (.int .i64 t243)) = w136 at n0_ n1_ n2_ n3_ n4_ n5_ n6_ n7_ n8_ n9_ n10_ ⊢
                have HO_12 := n0_
                have HO_229002 := n1_
                have HO_231000 := n2_
                have HO239 := n3_
                have HO242 := n4_
                have BK228 := n5_
                have BK230 := n6_
                have BK233 := n7_
                have BK245 := n8_
                have BK246 := n9_
                have HB := n10_
                clear n0_ n1_ n2_ n3_ n4_ n5_ n6_ n7_ n8_ n9_ n10_
                have n0_ := Aside0.mk (Kd.R_drew HO_12.out)
                have n1_ := Aside0.mk (Kd.V_drew HO_229002.out)
                have n2_ := Aside0.mk (Kd.V_drew HO_231000.out)
                have n3_ := Aside0.mk (Kd.V_drew HO239.out)
                have n4_ := Aside0.mk (Kd.V_drew HO242.out)
                have n5_ := Aside0.mk (blk_drew BK228.out)
                have n6_ := Aside0.mk (blk_drew BK230.out)
                have n7_ := Aside0.mk (blk_drew BK233.out)
                have n8_ := Aside0.mk (blk_drew BK245.out)
                have n9_ := Aside0.mk (blk_drew BK246.out)
                have n10_ := Aside0.mk (below_drew1 HB.out)
                clear HO_12
                clear HO_229002
                clear HO_231000
                clear HO239
                clear HO242
                clear BK228
                clear BK230
                clear BK233
                clear BK245
                clear BK246
                clear HB
                have HO_12 := n0_
                have HO_229002 := n1_
                have HO_231000 := n2_
                have HO239 := n3_
                have HO242 := n4_
                have BK228 := n5_
                have BK230 := n6_
                have BK233 := n7_
                have BK245 := n8_
                have BK246 := n9_
                have HB := n10_
                clear n0_ n1_ n2_ n3_ n4_ n5_ n6_ n7_ n8_ n9_ n10_
                refine start_ (n := 20) (S := fun w' => w'.cell? ⟨gb245, 0, none⟩ = some (.int .i64 t235) ∧ w'.cell? ⟨gb245, 1, none⟩ = some (.int .u64 t236) ∧ w'.cell? ⟨gb245, 2, none⟩ = some (.slice Ao130 t237.length co130) ∧ w'.cell? ⟨gb228, 0, none⟩ = some (.int .i64 x229000_2) ∧ w'.cell? ⟨gb228, 1, none⟩ = some (.int .u64 x229001_2) ∧ w'.cell? ⟨gb228, 2, none⟩ = some (.slice Ao120 x229002_2.length co120) ∧ w'.cell? ⟨gb246, 0, none⟩ = some (.slice Ao131 t240.length co131) ∧ w'.cell? ⟨gb246, 1, none⟩ = some (.int .i64 t243) ∧ w'.cell? ⟨gb230, 0, none⟩ = some (.slice Ao121 x231000_2.length co121) ∧ w'.cell? ⟨gb230, 1, none⟩ = some (.int .i64 x231001_2)) (ds := []) #[false, false, false, false, false, false, false, false, false, false, false, false, false, false, false, false, false, false, false, false] (by kernel_rfl) rfl rfl ⟨(blk_cell BK245.out 0).trans rfl, (blk_cell BK245.out 1).trans rfl, (blk_cell BK245.out 2).trans rfl, (blk_cell BK228.out 0).trans rfl, (blk_cell BK228.out 1).trans rfl, (blk_cell BK228.out 2).trans rfl, (blk_cell BK246.out 0).trans rfl, (blk_cell BK246.out 1).trans rfl, (blk_cell BK230.out 0).trans rfl, (blk_cell BK230.out 1).trans rfl⟩ (fun hHeld => ?_); refine with_tabW samphirelaw17_SlotsHolds.tab15 samphirelaw17_SlotsHolds.bits15 (fun HT_ HW_ => ?_)
                generalize w136.drew = w137 at HO_12 HO_229002 HO_231000 HO239 HO242 BK228 BK230 BK233 BK245 BK246 HB hHeld ⊢
                refine pure_ (i := 0) (N := some 82) (v := ?_) (a' := ?_) #[true, false, false, false, false, false, false, false, false, false, false, false, false, false, false, false, false, false, false, false] rfl rfl (any_of HT_.out (by kernel_rfl)) (fun _ _ _ h => h) (Or.inl ⟨by rfl, ?_⟩) ?_ ?_
                rotate_left
                ·
                 intro w'
                 go_simp
                 with_reducible rfl
                rotate_left
                ·
                 simp only [Act.put, List.setIfInBounds_toArray, List.set_cons_zero, List.set_cons_succ, i64_w, i32_w]
                 rfl
                refine pure_ (i := 1) (N := some 83) (v := ?_) (a' := ?_) #[true, true, false, false, false, false, false, false, false, false, false, false, false, false, false, false, false, false, false, false] rfl rfl (any_of HT_.out (by kernel_rfl)) (fun _ _ _ h => h) (Or.inl ⟨by rfl, ?_⟩) ?_ ?_
                rotate_left
                ·
                 intro w'
                 go_simp
                 with_reducible rfl
                rotate_left
                ·
                 simp only [Act.put, List.setIfInBounds_toArray, List.set_cons_zero, List.set_cons_succ, i64_w, i32_w]
                 rfl
                refine pure_ (i := 2) (N := some 84) (v := ?_) (a' := ?_) #[true, true, true, false, false, false, false, false, false, false, false, false, false, false, false, false, false, false, false, false] rfl rfl (any_of HT_.out (by kernel_rfl)) (fun _ _ _ h => h) (Or.inl ⟨by rfl, ?_⟩) ?_ ?_
                rotate_left
                ·
                 intro w'
                 go_simp
                 with_reducible rfl
                rotate_left
                ·
                 simp only [Act.put, List.setIfInBounds_toArray, List.set_cons_zero, List.set_cons_succ, i64_w, i32_w]
                 rfl
                refine take_ (i := 3) (N := some 85) (v := ?_) (a' := ?_) #[true, true, true, true, false, false, false, false, false, false, false, false, false, false, false, false, false, false, false, false] rfl rfl (take_ofW HT_.out HW_.out (by kernel_rfl)) (fun _ _ _ h => h) (Or.inl ⟨by rfl, ?_⟩) hHeld ?_ ?_
                rotate_left
                ·
                 rintro w' ⟨s0, s1, s2, s3, s4, s5, s6, s7, s8, s9⟩
                 go_simp
                 with_reducible rfl
                rotate_left
                ·
                 simp only [Act.put, List.setIfInBounds_toArray, List.set_cons_zero, List.set_cons_succ, i64_w, i32_w]
                 rfl
                refine take_ (i := 5) (N := some 87) (v := ?_) (a' := ?_) #[true, true, true, true, false, true, false, false, false, false, false, false, false, false, false, false, false, false, false, false] rfl rfl (take_ofW HT_.out HW_.out (by kernel_rfl)) (fun _ _ _ h => h) (Or.inl ⟨by rfl, ?_⟩) hHeld ?_ ?_
                rotate_left
                ·
                 rintro w' ⟨s0, s1, s2, s3, s4, s5, s6, s7, s8, s9⟩
                 go_simp
                 with_reducible rfl
                rotate_left
                ·
                 simp only [Act.put, List.setIfInBounds_toArray, List.set_cons_zero, List.set_cons_succ, i64_w, i32_w]
                 rfl
                refine one_ (i := 4) (N := some 86) #[true, true, true, true, true, true, false, false, false, false, false, false, false, false, false, false, false, false, false, false] rfl rfl (one_of HT_.out (by kernel_rfl)) (by decide) (fun K hK => ?_)
                refine goes_ Try.func12 (by kernel_rfl) rfl #[.agg #[.int .i64 t235, .int .u64 t236, .slice Ao130 t237.length co130]] (by rfl) rfl rfl (by (try simp only [List.map_toArray, List.map_cons, List.map_nil]); first | done | rfl | (simp only [List.length_drop, List.length_take]; rfl)) ?_
                with_reducible refine (samphirelaw17_ref.calls t235 t236 (fun k_ => ((P2_ k_ ∨ w.heap.size ≤ k_) ∧ (some k_ ≠ (u12 : Value).ownBlock ∧ (k_ ≠ gb228 ∧ (k_ ≠ gb230 ∧ (k_ ≠ gb233 ∧ (k_ ≠ gb245 ∧ k_ ≠ gb246))))))) _ _ t237 t247 t248 t249 _ ?side1 A108.out).mono ?_
                (case side1 => exact HO239.out)
                rintro e w138 ⟨v250, rfl, ho0, hb⟩
                refine ⟨_, rfl, ?_⟩
                have n0_ := Aside0.mk (Kd.R_below (by (with_reducible repeat (first | apply Kd.R_alloc | apply Kd.R_drewN | apply Kd.R_drew)); exact HO_12.out) hb)
                have n1_ := Aside0.mk (Kd.V_below (by (with_reducible repeat (first | apply Kd.V_alloc | apply Kd.V_drewN | apply Kd.V_drew)); exact HO_229002.out) hb)
                have n2_ := Aside0.mk (Kd.V_below (by (with_reducible repeat (first | apply Kd.V_alloc | apply Kd.V_drewN | apply Kd.V_drew)); exact HO_231000.out) hb)
                have n3_ := Aside0.mk (Kd.V_below (by (with_reducible repeat (first | apply Kd.V_alloc | apply Kd.V_drewN | apply Kd.V_drew)); exact HO239.out) hb)
                have n4_ := Aside0.mk (Kd.V_below (by (with_reducible repeat (first | apply Kd.V_alloc | apply Kd.V_drewN | apply Kd.V_drew)); exact HO242.out) hb)
                have n5_ := Aside0.mk (Kd.V_lower (Kd.V_mono (ok' := fun k_ => (P2_ k_ ∨ w.heap.size ≤ k_) ∧ some k_ ≠ (u12 : Value).ownBlock ∧ k_ ≠ gb228 ∧ k_ ≠ gb230 ∧ k_ ≠ gb233 ∧ k_ ≠ gb245 ∧ k_ ≠ gb246) ho0 (fun k_ hk_ => ⟨Or.elim hk_ (fun hs_ => hs_.1) (fun hn_ => (.inr (Nat.le_trans (below_size (by repeat (first | (with_reducible first | exact HB.out | apply below_alloc | apply pw_below_drewN | apply below_drew1 | refine below_set ?_ GE228.out | refine below_set ?_ GE230.out | refine below_set ?_ GE233.out | refine below_set ?_ GE245.out | refine below_set ?_ GE246.out) | exact HB.out))) hn_))), Or.elim hk_ (fun hs_ => hs_.2.1) (fun hn_ => (Kd.fresh' (Kd.R_lt (by (with_reducible repeat (first | apply Kd.R_alloc | apply Kd.R_drewN | apply Kd.R_drew)); exact HO_12.out)) k_ hn_)), Or.elim hk_ (fun hs_ => hs_.2.2.1) (fun hn_ => (Kd.freshB (g := gb228) (o := .cells #[.int .i64 x229000_2, .int .u64 x229001_2, .slice Ao120 x229002_2.length co120] 27 (0, 0)) (by (with_reducible repeat (first | refine blk_drewN ?_ _ | refine blk_drew ?_ | refine blk_alloc ?_ _)); exact BK228.out) k_ hn_)), Or.elim hk_ (fun hs_ => hs_.2.2.2.1) (fun hn_ => (Kd.freshB (g := gb230) (o := .cells #[.slice Ao121 x231000_2.length co121, .int .i64 x231001_2] 33 (0, 0)) (by (with_reducible repeat (first | refine blk_drewN ?_ _ | refine blk_drew ?_ | refine blk_alloc ?_ _)); exact BK230.out) k_ hn_)), Or.elim hk_ (fun hs_ => hs_.2.2.2.2.1) (fun hn_ => (Kd.freshB (g := gb233) (o := .cells #[.string ((rd_T35 l1 x50_2).f0), .int .u64 ((rd_T35 l1 x50_2).f1)] 35 (0, 0)) (by (with_reducible repeat (first | refine blk_drewN ?_ _ | refine blk_drew ?_ | refine blk_alloc ?_ _)); exact BK233.out) k_ hn_)), Or.elim hk_ (fun hs_ => hs_.2.2.2.2.2.1) (fun hn_ => (Kd.freshB (g := gb245) (o := .cells #[.int .i64 t235, .int .u64 t236, .slice Ao130 t237.length co130] 27 (0, 0)) (by (with_reducible repeat (first | refine blk_drewN ?_ _ | refine blk_drew ?_ | refine blk_alloc ?_ _)); exact BK245.out) k_ hn_)), Or.elim hk_ (fun hs_ => hs_.2.2.2.2.2.2) (fun hn_ => (Kd.freshB (g := gb246) (o := .cells #[.slice Ao131 t240.length co131, .int .i64 t243] 33 (0, 0)) (by (with_reducible repeat (first | refine blk_drewN ?_ _ | refine blk_drew ?_ | refine blk_alloc ?_ _)); exact BK246.out) k_ hn_))⟩)) (below_size (by repeat (first | (with_reducible first | exact HB.out | apply below_alloc | apply pw_below_drewN | apply below_drew1 | refine below_set ?_ GE228.out | refine below_set ?_ GE230.out | refine below_set ?_ GE233.out | refine below_set ?_ GE245.out | refine below_set ?_ GE246.out) | exact HB.out))))
                have n6_ := Aside0.mk (blk_below (g := gb228) (o := .cells #[.int .i64 x229000_2, .int .u64 x229001_2, .slice Ao120 x229002_2.length co120] 27 (0, 0)) (by (with_reducible repeat (first | refine blk_drewN ?_ _ | refine blk_drew ?_ | refine blk_alloc ?_ _)); exact BK228.out) hb)
                have n7_ := Aside0.mk (blk_below (g := gb230) (o := .cells #[.slice Ao121 x231000_2.length co121, .int .i64 x231001_2] 33 (0, 0)) (by (with_reducible repeat (first | refine blk_drewN ?_ _ | refine blk_drew ?_ | refine blk_alloc ?_ _)); exact BK230.out) hb)
                have n8_ := Aside0.mk (blk_below (g := gb233) (o := .cells #[.string ((rd_T35 l1 x50_2).f0), .int .u64 ((rd_T35 l1 x50_2).f1)] 35 (0, 0)) (by (with_reducible repeat (first | refine blk_drewN ?_ _ | refine blk_drew ?_ | refine blk_alloc ?_ _)); exact BK233.out) hb)
                have n9_ := Aside0.mk (blk_below (g := gb245) (o := .cells #[.int .i64 t235, .int .u64 t236, .slice Ao130 t237.length co130] 27 (0, 0)) (by (with_reducible repeat (first | refine blk_drewN ?_ _ | refine blk_drew ?_ | refine blk_alloc ?_ _)); exact BK245.out) hb)
                have n10_ := Aside0.mk (blk_below (g := gb246) (o := .cells #[.slice Ao131 t240.length co131, .int .i64 t243] 33 (0, 0)) (by (with_reducible repeat (first | refine blk_drewN ?_ _ | refine blk_drew ?_ | refine blk_alloc ?_ _)); exact BK246.out) hb)
                have n11_ := Aside0.mk (below_step (by repeat (first | (with_reducible first | exact HB.out | apply below_alloc | apply pw_below_drewN | apply below_drew1 | refine below_set ?_ GE228.out | refine below_set ?_ GE230.out | refine below_set ?_ GE233.out | refine below_set ?_ GE245.out | refine below_set ?_ GE246.out) | exact HB.out)) hb)
                clear HO_12
                clear HO_229002
                clear HO_231000
                clear HO239
                clear HO242
                clear BK228
                clear BK230
                clear BK233
                clear BK245
                clear BK246
                clear HB
                have HO_12 := n0_
                have HO_229002 := n1_
                have HO_231000 := n2_
                have HO239 := n3_
                have HO242 := n4_
                have HO251 := n5_
                have BK228 := n6_
                have BK230 := n7_
                have BK233 := n8_
                have BK245 := n9_
                have BK246 := n10_
                have HB := n11_
                clear n0_ n1_ n2_ n3_ n4_ n5_ n6_ n7_ n8_ n9_ n10_ n11_
                (try clear hb)
                (try clear hb2)
                (try clear hk)
                (try clear hi)
                (try clear ho0)
                refine hK.out _ _ ⟨(blk_cell BK245.out 0).trans rfl, (blk_cell BK245.out 1).trans rfl, (blk_cell BK245.out 2).trans rfl, (blk_cell BK228.out 0).trans rfl, (blk_cell BK228.out 1).trans rfl, (blk_cell BK228.out 2).trans rfl, (blk_cell BK246.out 0).trans rfl, (blk_cell BK246.out 1).trans rfl, (blk_cell BK230.out 0).trans rfl, (blk_cell BK230.out 1).trans rfl⟩ (fun hHeld => ?_)
                clear hK K
                refine norm_ (a' := ?_) ?_ ?_
                rotate_left
                ·
                 show Act.put _ (some 86) _ = _
                 simp only [Act.put, List.setIfInBounds_toArray, List.set_cons_zero, List.set_cons_succ, i64_w, i32_w]
                 rfl
                refine one_ (i := 6) (N := some 88) #[true, true, true, true, true, true, true, false, false, false, false, false, false, false, false, false, false, false, false, false] rfl rfl (one_of HT_.out (by kernel_rfl)) (by decide) (fun K hK => ?_)
                refine goes_ Try.func12 (by kernel_rfl) rfl #[.agg #[.int .i64 x229000_2, .int .u64 x229001_2, .slice Ao120 x229002_2.length co120]] (by rfl) rfl rfl (by (try simp only [List.map_toArray, List.map_cons, List.map_nil]); first | done | rfl | (simp only [List.length_drop, List.length_take]; rfl)) ?_
                with_reducible refine (samphirelaw17_ref.calls x229000_2 x229001_2 (fun k_ => ((P2_ k_ ∨ w.heap.size ≤ k_) ∧ (some k_ ≠ (u12 : Value).ownBlock ∧ (k_ ≠ gb228 ∧ (k_ ≠ gb230 ∧ (k_ ≠ gb233 ∧ (k_ ≠ gb245 ∧ k_ ≠ gb246))))))) _ _ x229002_2 t252 t253 t254 _ ?side1 A109.out).mono ?_
                (case side1 => exact HO_229002.out)
                rintro e w139 ⟨v255, rfl, ho0, hb⟩
                refine ⟨_, rfl, ?_⟩
                have n0_ := Aside0.mk (Kd.R_below (by (with_reducible repeat (first | apply Kd.R_alloc | apply Kd.R_drewN | apply Kd.R_drew)); exact HO_12.out) hb)
                have n1_ := Aside0.mk (Kd.V_below (by (with_reducible repeat (first | apply Kd.V_alloc | apply Kd.V_drewN | apply Kd.V_drew)); exact HO_229002.out) hb)
                have n2_ := Aside0.mk (Kd.V_below (by (with_reducible repeat (first | apply Kd.V_alloc | apply Kd.V_drewN | apply Kd.V_drew)); exact HO_231000.out) hb)
                have n3_ := Aside0.mk (Kd.V_below (by (with_reducible repeat (first | apply Kd.V_alloc | apply Kd.V_drewN | apply Kd.V_drew)); exact HO239.out) hb)
                have n4_ := Aside0.mk (Kd.V_below (by (with_reducible repeat (first | apply Kd.V_alloc | apply Kd.V_drewN | apply Kd.V_drew)); exact HO242.out) hb)
                have n5_ := Aside0.mk (Kd.V_below (by (with_reducible repeat (first | apply Kd.V_alloc | apply Kd.V_drewN | apply Kd.V_drew)); exact HO251.out) hb)
                have n6_ := Aside0.mk (Kd.V_lower (Kd.V_mono (ok' := fun k_ => (P2_ k_ ∨ w.heap.size ≤ k_) ∧ some k_ ≠ (u12 : Value).ownBlock ∧ k_ ≠ gb228 ∧ k_ ≠ gb230 ∧ k_ ≠ gb233 ∧ k_ ≠ gb245 ∧ k_ ≠ gb246) ho0 (fun k_ hk_ => ⟨Or.elim hk_ (fun hs_ => hs_.1) (fun hn_ => (.inr (Nat.le_trans (below_size (by repeat (first | (with_reducible first | exact HB.out | apply below_alloc | apply pw_below_drewN | apply below_drew1 | refine below_set ?_ GE228.out | refine below_set ?_ GE230.out | refine below_set ?_ GE233.out | refine below_set ?_ GE245.out | refine below_set ?_ GE246.out) | exact HB.out))) hn_))), Or.elim hk_ (fun hs_ => hs_.2.1) (fun hn_ => (Kd.fresh' (Kd.R_lt (by (with_reducible repeat (first | apply Kd.R_alloc | apply Kd.R_drewN | apply Kd.R_drew)); exact HO_12.out)) k_ hn_)), Or.elim hk_ (fun hs_ => hs_.2.2.1) (fun hn_ => (Kd.freshB (g := gb228) (o := .cells #[.int .i64 x229000_2, .int .u64 x229001_2, .slice Ao120 x229002_2.length co120] 27 (0, 0)) (by (with_reducible repeat (first | refine blk_drewN ?_ _ | refine blk_drew ?_ | refine blk_alloc ?_ _)); exact BK228.out) k_ hn_)), Or.elim hk_ (fun hs_ => hs_.2.2.2.1) (fun hn_ => (Kd.freshB (g := gb230) (o := .cells #[.slice Ao121 x231000_2.length co121, .int .i64 x231001_2] 33 (0, 0)) (by (with_reducible repeat (first | refine blk_drewN ?_ _ | refine blk_drew ?_ | refine blk_alloc ?_ _)); exact BK230.out) k_ hn_)), Or.elim hk_ (fun hs_ => hs_.2.2.2.2.1) (fun hn_ => (Kd.freshB (g := gb233) (o := .cells #[.string ((rd_T35 l1 x50_2).f0), .int .u64 ((rd_T35 l1 x50_2).f1)] 35 (0, 0)) (by (with_reducible repeat (first | refine blk_drewN ?_ _ | refine blk_drew ?_ | refine blk_alloc ?_ _)); exact BK233.out) k_ hn_)), Or.elim hk_ (fun hs_ => hs_.2.2.2.2.2.1) (fun hn_ => (Kd.freshB (g := gb245) (o := .cells #[.int .i64 t235, .int .u64 t236, .slice Ao130 t237.length co130] 27 (0, 0)) (by (with_reducible repeat (first | refine blk_drewN ?_ _ | refine blk_drew ?_ | refine blk_alloc ?_ _)); exact BK245.out) k_ hn_)), Or.elim hk_ (fun hs_ => hs_.2.2.2.2.2.2) (fun hn_ => (Kd.freshB (g := gb246) (o := .cells #[.slice Ao131 t240.length co131, .int .i64 t243] 33 (0, 0)) (by (with_reducible repeat (first | refine blk_drewN ?_ _ | refine blk_drew ?_ | refine blk_alloc ?_ _)); exact BK246.out) k_ hn_))⟩)) (below_size (by repeat (first | (with_reducible first | exact HB.out | apply below_alloc | apply pw_below_drewN | apply below_drew1 | refine below_set ?_ GE228.out | refine below_set ?_ GE230.out | refine below_set ?_ GE233.out | refine below_set ?_ GE245.out | refine below_set ?_ GE246.out) | exact HB.out))))
                have n7_ := Aside0.mk (blk_below (g := gb228) (o := .cells #[.int .i64 x229000_2, .int .u64 x229001_2, .slice Ao120 x229002_2.length co120] 27 (0, 0)) (by (with_reducible repeat (first | refine blk_drewN ?_ _ | refine blk_drew ?_ | refine blk_alloc ?_ _)); exact BK228.out) hb)
                have n8_ := Aside0.mk (blk_below (g := gb230) (o := .cells #[.slice Ao121 x231000_2.length co121, .int .i64 x231001_2] 33 (0, 0)) (by (with_reducible repeat (first | refine blk_drewN ?_ _ | refine blk_drew ?_ | refine blk_alloc ?_ _)); exact BK230.out) hb)
                have n9_ := Aside0.mk (blk_below (g := gb233) (o := .cells #[.string ((rd_T35 l1 x50_2).f0), .int .u64 ((rd_T35 l1 x50_2).f1)] 35 (0, 0)) (by (with_reducible repeat (first | refine blk_drewN ?_ _ | refine blk_drew ?_ | refine blk_alloc ?_ _)); exact BK233.out) hb)
                have n10_ := Aside0.mk (blk_below (g := gb245) (o := .cells #[.int .i64 t235, .int .u64 t236, .slice Ao130 t237.length co130] 27 (0, 0)) (by (with_reducible repeat (first | refine blk_drewN ?_ _ | refine blk_drew ?_ | refine blk_alloc ?_ _)); exact BK245.out) hb)
                have n11_ := Aside0.mk (blk_below (g := gb246) (o := .cells #[.slice Ao131 t240.length co131, .int .i64 t243] 33 (0, 0)) (by (with_reducible repeat (first | refine blk_drewN ?_ _ | refine blk_drew ?_ | refine blk_alloc ?_ _)); exact BK246.out) hb)
                have n12_ := Aside0.mk (below_step (by repeat (first | (with_reducible first | exact HB.out | apply below_alloc | apply pw_below_drewN | apply below_drew1 | refine below_set ?_ GE228.out | refine below_set ?_ GE230.out | refine below_set ?_ GE233.out | refine below_set ?_ GE245.out | refine below_set ?_ GE246.out) | exact HB.out)) hb)
                clear HO_12
                clear HO_229002
                clear HO_231000
                clear HO239
                clear HO242
                clear HO251
                clear BK228
                clear BK230
                clear BK233
                clear BK245
                clear BK246
                clear HB
                have HO_12 := n0_
                have HO_229002 := n1_
                have HO_231000 := n2_
                have HO239 := n3_
                have HO242 := n4_
                have HO251 := n5_
                have HO256 := n6_
                have BK228 := n7_
                have BK230 := n8_
                have BK233 := n9_
                have BK245 := n10_
                have BK246 := n11_
                have HB := n12_
                clear n0_ n1_ n2_ n3_ n4_ n5_ n6_ n7_ n8_ n9_ n10_ n11_ n12_
                (try clear hb)
                (try clear hb2)
                (try clear hk)
                (try clear hi)
                (try clear ho0)
                obtain ⟨Ao140, co140, eo140⟩ := Kd.V_slice HO251.out
                (first | subst eo140 | (injection eo140 with f1_ f2_ f3_; have f4_ := f1_.symm; have f5_ := f3_.symm; clear f1_ f2_ f3_; subst f4_; subst f5_))
                obtain ⟨Ao141, co141, eo141⟩ := Kd.V_slice HO256.out
                (first | subst eo141 | (injection eo141 with f1_ f2_ f3_; have f4_ := f1_.symm; have f5_ := f3_.symm; clear f1_ f2_ f3_; subst f4_; subst f5_))
                refine hK.out _ _ ⟨(blk_cell BK245.out 0).trans rfl, (blk_cell BK245.out 1).trans rfl, (blk_cell BK245.out 2).trans rfl, (blk_cell BK228.out 0).trans rfl, (blk_cell BK228.out 1).trans rfl, (blk_cell BK228.out 2).trans rfl, (blk_cell BK246.out 0).trans rfl, (blk_cell BK246.out 1).trans rfl, (blk_cell BK230.out 0).trans rfl, (blk_cell BK230.out 1).trans rfl⟩ (fun hHeld => ?_)
                clear hK K
                refine norm_ (a' := ?_) ?_ ?_
                rotate_left
                ·
                 show Act.put _ (some 88) _ = _
                 simp only [Act.put, List.setIfInBounds_toArray, List.set_cons_zero, List.set_cons_succ, i64_w, i32_w]
                 rfl
                refine one_ (i := 7) (N := some 89) #[true, true, true, true, true, true, true, true, false, false, false, false, false, false, false, false, false, false, false, false] rfl rfl (one_of HT_.out (by kernel_rfl)) (by decide) (fun K hK => ?_)
                refine goes_ Try.func11 (by kernel_rfl) rfl #[.agg #[.int .i64 t247, .int .u64 t248, .slice Ao140 t249.length co140], .agg #[.int .i64 t252, .int .u64 t253, .slice Ao141 t254.length co141]] (by rfl) rfl rfl (by (try simp only [List.map_toArray, List.map_cons, List.map_nil]); first | done | rfl | (simp only [List.length_drop, List.length_take]; rfl)) ?_
                with_reducible refine (samphireref17_Same.calls kj21 t247 t248 _ _ t249 t252 t253 _ _ t254 true _ ?side1 ?side2 ?side3 ?side4 A110.out).mono ?_
                (case side1 => repeat (first | exact (Kd.V_reads' HO251.out).2.2 | (with_reducible refine Kd.C_alloc ?_ _) | (with_reducible refine Kd.C_drewN ?_ _) | (with_reducible refine Kd.C_drew ?_)))
                (case side2 => exact (Kd.V_reads' HO251.out).2.1)
                (case side3 => repeat (first | exact (Kd.V_reads' HO256.out).2.2 | (with_reducible refine Kd.C_alloc ?_ _) | (with_reducible refine Kd.C_drewN ?_ _) | (with_reducible refine Kd.C_drew ?_)))
                (case side4 => exact (Kd.V_reads' HO256.out).2.1)
                rintro e w142 ⟨rfl, hb⟩
                refine ⟨_, rfl, ?_⟩
                have n0_ := Aside0.mk (Kd.R_below (by (with_reducible repeat (first | apply Kd.R_alloc | apply Kd.R_drewN | apply Kd.R_drew)); exact HO_12.out) hb)
                have n1_ := Aside0.mk (Kd.V_below (by (with_reducible repeat (first | apply Kd.V_alloc | apply Kd.V_drewN | apply Kd.V_drew)); exact HO_229002.out) hb)
                have n2_ := Aside0.mk (Kd.V_below (by (with_reducible repeat (first | apply Kd.V_alloc | apply Kd.V_drewN | apply Kd.V_drew)); exact HO_231000.out) hb)
                have n3_ := Aside0.mk (Kd.V_below (by (with_reducible repeat (first | apply Kd.V_alloc | apply Kd.V_drewN | apply Kd.V_drew)); exact HO239.out) hb)
                have n4_ := Aside0.mk (Kd.V_below (by (with_reducible repeat (first | apply Kd.V_alloc | apply Kd.V_drewN | apply Kd.V_drew)); exact HO242.out) hb)
                have n5_ := Aside0.mk (Kd.V_below (by (with_reducible repeat (first | apply Kd.V_alloc | apply Kd.V_drewN | apply Kd.V_drew)); exact HO251.out) hb)
                have n6_ := Aside0.mk (Kd.V_below (by (with_reducible repeat (first | apply Kd.V_alloc | apply Kd.V_drewN | apply Kd.V_drew)); exact HO256.out) hb)
                have n7_ := Aside0.mk (blk_below (g := gb228) (o := .cells #[.int .i64 x229000_2, .int .u64 x229001_2, .slice Ao120 x229002_2.length co120] 27 (0, 0)) (by (with_reducible repeat (first | refine blk_drewN ?_ _ | refine blk_drew ?_ | refine blk_alloc ?_ _)); exact BK228.out) hb)
                have n8_ := Aside0.mk (blk_below (g := gb230) (o := .cells #[.slice Ao121 x231000_2.length co121, .int .i64 x231001_2] 33 (0, 0)) (by (with_reducible repeat (first | refine blk_drewN ?_ _ | refine blk_drew ?_ | refine blk_alloc ?_ _)); exact BK230.out) hb)
                have n9_ := Aside0.mk (blk_below (g := gb233) (o := .cells #[.string ((rd_T35 l1 x50_2).f0), .int .u64 ((rd_T35 l1 x50_2).f1)] 35 (0, 0)) (by (with_reducible repeat (first | refine blk_drewN ?_ _ | refine blk_drew ?_ | refine blk_alloc ?_ _)); exact BK233.out) hb)
                have n10_ := Aside0.mk (blk_below (g := gb245) (o := .cells #[.int .i64 t235, .int .u64 t236, .slice Ao130 t237.length co130] 27 (0, 0)) (by (with_reducible repeat (first | refine blk_drewN ?_ _ | refine blk_drew ?_ | refine blk_alloc ?_ _)); exact BK245.out) hb)
                have n11_ := Aside0.mk (blk_below (g := gb246) (o := .cells #[.slice Ao131 t240.length co131, .int .i64 t243] 33 (0, 0)) (by (with_reducible repeat (first | refine blk_drewN ?_ _ | refine blk_drew ?_ | refine blk_alloc ?_ _)); exact BK246.out) hb)
                have n12_ := Aside0.mk (below_step (by repeat (first | (with_reducible first | exact HB.out | apply below_alloc | apply pw_below_drewN | apply below_drew1 | refine below_set ?_ GE228.out | refine below_set ?_ GE230.out | refine below_set ?_ GE233.out | refine below_set ?_ GE245.out | refine below_set ?_ GE246.out) | exact HB.out)) hb)
                clear HO_12
                clear HO_229002
                clear HO_231000
                clear HO239
                clear HO242
                clear HO251
                clear HO256
                clear BK228
                clear BK230
                clear BK233
                clear BK245
                clear BK246
                clear HB
                have HO_12 := n0_
                have HO_229002 := n1_
                have HO_231000 := n2_
                have HO239 := n3_
                have HO242 := n4_
                have HO251 := n5_
                have HO256 := n6_
                have BK228 := n7_
                have BK230 := n8_
                have BK233 := n9_
                have BK245 := n10_
                have BK246 := n11_
                have HB := n12_
                clear n0_ n1_ n2_ n3_ n4_ n5_ n6_ n7_ n8_ n9_ n10_ n11_ n12_
                (try clear hb)
                (try clear hb2)
                (try clear hk)
                (try clear hi)
                refine hK.out _ _ ⟨(blk_cell BK245.out 0).trans rfl, (blk_cell BK245.out 1).trans rfl, (blk_cell BK245.out 2).trans rfl, (blk_cell BK228.out 0).trans rfl, (blk_cell BK228.out 1).trans rfl, (blk_cell BK228.out 2).trans rfl, (blk_cell BK246.out 0).trans rfl, (blk_cell BK246.out 1).trans rfl, (blk_cell BK230.out 0).trans rfl, (blk_cell BK230.out 1).trans rfl⟩ (fun hHeld => ?_)
                clear hK K
                refine norm_ (a' := ?_) ?_ ?_
                rotate_left
                ·
                 show Act.put _ (some 89) _ = _
                 simp only [Act.put, List.setIfInBounds_toArray, List.set_cons_zero, List.set_cons_succ, i64_w, i32_w]
                 rfl
                refine pure_ (i := 8) (N := some 90) (v := ?_) (a' := ?_) #[true, true, true, true, true, true, true, true, true, false, false, false, false, false, false, false, false, false, false, false] rfl rfl (any_of HT_.out (by kernel_rfl)) (fun _ _ _ h => h) (Or.inl ⟨by rfl, ?_⟩) ?_ ?_
                rotate_left
                ·
                 intro w'
                 go_simp
                 with_reducible rfl
                rotate_left
                ·
                 simp only [Act.put, List.setIfInBounds_toArray, List.set_cons_zero, List.set_cons_succ, i64_w, i32_w]
                 rfl
                refine pure_ (i := 9) (N := some 91) (v := ?_) (a' := ?_) #[true, true, true, true, true, true, true, true, true, true, false, false, false, false, false, false, false, false, false, false] rfl rfl (any_of HT_.out (by kernel_rfl)) (fun _ _ _ h => h) (Or.inl ⟨by rfl, ?_⟩) ?_ ?_
                rotate_left
                ·
                 intro w'
                 go_simp
                 with_reducible rfl
                rotate_left
                ·
                 simp only [Act.put, List.setIfInBounds_toArray, List.set_cons_zero, List.set_cons_succ, i64_w, i32_w]
                 rfl
                refine pure_ (i := 10) (N := some 92) (v := ?_) (a' := ?_) #[true, true, true, true, true, true, true, true, true, true, true, false, false, false, false, false, false, false, false, false] rfl rfl (any_of HT_.out (by kernel_rfl)) (fun _ _ _ h => h) (Or.inl ⟨by rfl, ?_⟩) ?_ ?_
                rotate_left
                ·
                 intro w'
                 go_simp
                 with_reducible rfl
                rotate_left
                ·
                 simp only [Act.put, List.setIfInBounds_toArray, List.set_cons_zero, List.set_cons_succ, i64_w, i32_w]
                 rfl
                refine pure_ (i := 12) (N := some 94) (v := ?_) (a' := ?_) #[true, true, true, true, true, true, true, true, true, true, true, false, true, false, false, false, false, false, false, false] rfl rfl (any_of HT_.out (by kernel_rfl)) (fun _ _ _ h => h) (Or.inl ⟨by rfl, ?_⟩) ?_ ?_
                rotate_left
                ·
                 intro w'
                 go_simp
                 with_reducible rfl
                rotate_left
                ·
                 simp only [Act.put, List.setIfInBounds_toArray, List.set_cons_zero, List.set_cons_succ, i64_w, i32_w]
                 rfl
                refine take_ (i := 11) (N := some 93) (v := ?_) (a' := ?_) #[true, true, true, true, true, true, true, true, true, true, true, true, true, false, false, false, false, false, false, false] rfl rfl (take_ofW HT_.out HW_.out (by kernel_rfl)) (fun _ _ _ h => h) (Or.inl ⟨by rfl, ?_⟩) hHeld ?_ ?_
                rotate_left
                ·
                 rintro w' ⟨s0, s1, s2, s3, s4, s5, s6, s7, s8, s9⟩
                 go_simp
                 with_reducible rfl
                rotate_left
                ·
                 simp only [Act.put, List.setIfInBounds_toArray, List.set_cons_zero, List.set_cons_succ, i64_w, i32_w]
                 rfl
                refine take_ (i := 13) (N := some 95) (v := ?_) (a' := ?_) #[true, true, true, true, true, true, true, true, true, true, true, true, true, true, false, false, false, false, false, false] rfl rfl (take_ofW HT_.out HW_.out (by kernel_rfl)) (fun _ _ _ h => h) (Or.inl ⟨by rfl, ?_⟩) hHeld ?_ ?_
                rotate_left
                ·
                 rintro w' ⟨s0, s1, s2, s3, s4, s5, s6, s7, s8, s9⟩
                 go_simp
                 with_reducible rfl
                rotate_left
                ·
                 simp only [Act.put, List.setIfInBounds_toArray, List.set_cons_zero, List.set_cons_succ, i64_w, i32_w]
                 rfl
                refine pure_ (i := 14) (N := some 96) (v := ?_) (a' := ?_) #[true, true, true, true, true, true, true, true, true, true, true, true, true, true, true, false, false, false, false, false] rfl rfl (any_of HT_.out (by kernel_rfl)) (fun _ _ _ h => h) (Or.inl ⟨by rfl, ?_⟩) ?_ ?_
                rotate_left
                ·
                 intro w'
                 go_simp
                 with_reducible rfl
                rotate_left
                ·
                 simp only [Act.put, List.setIfInBounds_toArray, List.set_cons_zero, List.set_cons_succ, i64_w, i32_w]
                 rfl
                refine pure_ (i := 15) (N := some 97) (v := ?_) (a' := ?_) #[true, true, true, true, true, true, true, true, true, true, true, true, true, true, true, true, false, false, false, false] rfl rfl (any_of HT_.out (by kernel_rfl)) (fun _ _ _ h => h) (Or.inl ⟨by rfl, ?_⟩) ?_ ?_
                rotate_left
                ·
                 intro w'
                 go_simp
                 with_reducible rfl
                rotate_left
                ·
                 simp only [Act.put, List.setIfInBounds_toArray, List.set_cons_zero, List.set_cons_succ, i64_w, i32_w]
                 rfl
                refine pure_ (i := 16) (N := some 98) (v := ?_) (a' := ?_) #[true, true, true, true, true, true, true, true, true, true, true, true, true, true, true, true, true, false, false, false] rfl rfl (any_of HT_.out (by kernel_rfl)) (fun _ _ _ h => h) (Or.inl ⟨by rfl, ?_⟩) ?_ ?_
                rotate_left
                ·
                 intro w'
                 go_simp
                 with_reducible rfl
                rotate_left
                ·
                 simp only [Act.put, List.setIfInBounds_toArray, List.set_cons_zero, List.set_cons_succ, i64_w, i32_w]
                 rfl
                refine one_ (i := 17) (N := some 99) #[true, true, true, true, true, true, true, true, true, true, true, true, true, true, true, true, true, true, false, false] rfl rfl (one_of HT_.out (by kernel_rfl)) (by decide) (fun K hK => ?_)
                refine goes_ Try.func9 (by kernel_rfl) rfl #[] (by rfl) rfl rfl (by (try simp only [List.map_toArray, List.map_cons, List.map_nil]); first | done | rfl | (simp only [List.length_drop, List.length_take]; rfl)) ?_
                with_reducible refine (samphirelaw17_awake.calls kj21  t258 _ A113.out).mono ?_
                rintro e w143 ⟨rfl, hb⟩
                refine ⟨_, rfl, ?_⟩
                have n0_ := Aside0.mk (Kd.R_below (by (with_reducible repeat (first | apply Kd.R_alloc | apply Kd.R_drewN | apply Kd.R_drew)); exact HO_12.out) hb)
                have n1_ := Aside0.mk (Kd.V_below (by (with_reducible repeat (first | apply Kd.V_alloc | apply Kd.V_drewN | apply Kd.V_drew)); exact HO_229002.out) hb)
                have n2_ := Aside0.mk (Kd.V_below (by (with_reducible repeat (first | apply Kd.V_alloc | apply Kd.V_drewN | apply Kd.V_drew)); exact HO_231000.out) hb)
                have n3_ := Aside0.mk (Kd.V_below (by (with_reducible repeat (first | apply Kd.V_alloc | apply Kd.V_drewN | apply Kd.V_drew)); exact HO239.out) hb)
                have n4_ := Aside0.mk (Kd.V_below (by (with_reducible repeat (first | apply Kd.V_alloc | apply Kd.V_drewN | apply Kd.V_drew)); exact HO242.out) hb)
                have n5_ := Aside0.mk (Kd.V_below (by (with_reducible repeat (first | apply Kd.V_alloc | apply Kd.V_drewN | apply Kd.V_drew)); exact HO251.out) hb)
                have n6_ := Aside0.mk (Kd.V_below (by (with_reducible repeat (first | apply Kd.V_alloc | apply Kd.V_drewN | apply Kd.V_drew)); exact HO256.out) hb)
                have n7_ := Aside0.mk (blk_below (g := gb228) (o := .cells #[.int .i64 x229000_2, .int .u64 x229001_2, .slice Ao120 x229002_2.length co120] 27 (0, 0)) (by (with_reducible repeat (first | refine blk_drewN ?_ _ | refine blk_drew ?_ | refine blk_alloc ?_ _)); exact BK228.out) hb)
                have n8_ := Aside0.mk (blk_below (g := gb230) (o := .cells #[.slice Ao121 x231000_2.length co121, .int .i64 x231001_2] 33 (0, 0)) (by (with_reducible repeat (first | refine blk_drewN ?_ _ | refine blk_drew ?_ | refine blk_alloc ?_ _)); exact BK230.out) hb)
                have n9_ := Aside0.mk (blk_below (g := gb233) (o := .cells #[.string ((rd_T35 l1 x50_2).f0), .int .u64 ((rd_T35 l1 x50_2).f1)] 35 (0, 0)) (by (with_reducible repeat (first | refine blk_drewN ?_ _ | refine blk_drew ?_ | refine blk_alloc ?_ _)); exact BK233.out) hb)
                have n10_ := Aside0.mk (blk_below (g := gb245) (o := .cells #[.int .i64 t235, .int .u64 t236, .slice Ao130 t237.length co130] 27 (0, 0)) (by (with_reducible repeat (first | refine blk_drewN ?_ _ | refine blk_drew ?_ | refine blk_alloc ?_ _)); exact BK245.out) hb)
                have n11_ := Aside0.mk (blk_below (g := gb246) (o := .cells #[.slice Ao131 t240.length co131, .int .i64 t243] 33 (0, 0)) (by (with_reducible repeat (first | refine blk_drewN ?_ _ | refine blk_drew ?_ | refine blk_alloc ?_ _)); exact BK246.out) hb)
                have n12_ := Aside0.mk (below_step (by repeat (first | (with_reducible first | exact HB.out | apply below_alloc | apply pw_below_drewN | apply below_drew1 | refine below_set ?_ GE228.out | refine below_set ?_ GE230.out | refine below_set ?_ GE233.out | refine below_set ?_ GE245.out | refine below_set ?_ GE246.out) | exact HB.out)) hb)
                clear HO_12
                clear HO_229002
                clear HO_231000
                clear HO239
                clear HO242
                clear HO251
                clear HO256
                clear BK228
                clear BK230
                clear BK233
                clear BK245
                clear BK246
                clear HB
                have HO_12 := n0_
                have HO_229002 := n1_
                have HO_231000 := n2_
                have HO239 := n3_
                have HO242 := n4_
                have HO251 := n5_
                have HO256 := n6_
                have BK228 := n7_
                have BK230 := n8_
                have BK233 := n9_
                have BK245 := n10_
                have BK246 := n11_
                have HB := n12_
                clear n0_ n1_ n2_ n3_ n4_ n5_ n6_ n7_ n8_ n9_ n10_ n11_ n12_
                (try clear hb)
                (try clear hb2)
                (try clear hk)
                (try clear hi)
                refine hK.out _ _ ⟨(blk_cell BK245.out 0).trans rfl, (blk_cell BK245.out 1).trans rfl, (blk_cell BK245.out 2).trans rfl, (blk_cell BK228.out 0).trans rfl, (blk_cell BK228.out 1).trans rfl, (blk_cell BK228.out 2).trans rfl, (blk_cell BK246.out 0).trans rfl, (blk_cell BK246.out 1).trans rfl, (blk_cell BK230.out 0).trans rfl, (blk_cell BK230.out 1).trans rfl⟩ (fun hHeld => ?_)
                clear hK K
                refine norm_ (a' := ?_) ?_ ?_
                rotate_left
                ·
                 show Act.put _ (some 99) _ = _
                 simp only [Act.put, List.setIfInBounds_toArray, List.set_cons_zero, List.set_cons_succ, i64_w, i32_w]
                 rfl
                refine pure_ (i := 18) (N := some 100) (v := ?_) (a' := ?_) #[true, true, true, true, true, true, true, true, true, true, true, true, true, true, true, true, true, true, true, false] rfl rfl (any_of HT_.out (by kernel_rfl)) (fun _ _ _ h => h) (Or.inl ⟨by rfl, ?_⟩) ?_ ?_
                rotate_left
                ·
                 intro w'
                 go_simp
                 with_reducible rfl
                rotate_left
                ·
                 simp only [Act.put, List.setIfInBounds_toArray, List.set_cons_zero, List.set_cons_succ, i64_w, i32_w]
                 rfl
                refine pure_ (i := 19) (N := some 6) (v := ?_) (a' := ?_) #[true, true, true, true, true, true, true, true, true, true, true, true, true, true, true, true, true, true, true, true] rfl rfl (any_of HT_.out (by kernel_rfl)) (fun _ _ _ h => h) (Or.inl ⟨by rfl, ?_⟩) ?_ ?_
                rotate_left
                ·
                 intro w'
                 go_simp
                 with_reducible rfl
                rotate_left
                ·
                 simp only [Act.put, List.setIfInBounds_toArray, List.set_cons_zero, List.set_cons_succ, i64_w, i32_w]
                 rfl
                refine done_ (done_of HT_.out (by kernel_rfl)) ?_
                try go_wp2
                go_ret
                exact ⟨by first | rfl | (simp [errW_none, errW_some] <;> rfl) | (simp [*, errW_none, errW_some] <;> rfl), by repeat (first | (with_reducible first | exact HB.out | apply below_alloc | apply pw_below_drewN | apply below_drew1 | refine below_set ?_ GE228.out | refine below_set ?_ GE230.out | refine below_set ?_ GE233.out | refine below_set ?_ GE245.out | refine below_set ?_ GE246.out) | exact HB.out)⟩
               ·
                rw [if_neg c112] at H; cases H
              ·
               rw [if_neg c111] at H; cases H
             ·
              rw [if_neg c107] at H; cases H
        ·
         rw [if_neg c21] at H
         exact absurd H (by simp)
       ·
        rw [if_neg c20] at H
        exact absurd H (by simp)
      ·
       rw [if_neg c19] at H
       have c19b0 : decide (x50_2 < (l1.length : Int)) = false := decide_eq_false c19
       clear c19
       replace H := Option.bind_eq_some_iff.mp H
       obtain ⟨t231, A2260, H⟩ := H
       replace H : (some t231) = some r := H
       have A226 := Aside0.mk A2260
       clear A2260
       obtain rfl := Option.some.inj H
       go_wp2_with (first | ((with_reducible refine gate_callee (f := 9) rfl ?_); refine goesL_ (some 141) rfl rfl Try.func9 (by kernel_rfl) rfl #[] rfl (by (try simp only [List.map_toArray, List.map_cons, List.map_nil]); first | done | rfl | (simp only [List.length_drop, List.length_take]; rfl)) ?_; (with_reducible refine (samphirelaw17_awake.calls k2  t231 _ A226.out).mono ?_); rintro e w227 ⟨rfl, hb⟩; refine ⟨_, rfl, ?_⟩; have n0_ := Aside0.mk (Kd.R_below (by (with_reducible repeat (first | apply Kd.R_alloc | apply Kd.R_drewN | apply Kd.R_drew)); exact HO_12.out) hb); have n1_ := Aside0.mk (Kd.V_below (by (with_reducible repeat (first | apply Kd.V_alloc | apply Kd.V_drewN | apply Kd.V_drew)); exact HO_229002.out) hb); have n2_ := Aside0.mk (Kd.V_below (by (with_reducible repeat (first | apply Kd.V_alloc | apply Kd.V_drewN | apply Kd.V_drew)); exact HO_231000.out) hb); have n3_ := Aside0.mk (blk_below (g := gb228) (o := .cells #[.int .i64 x229000_2, .int .u64 x229001_2, u229002] 27 (0, 0)) (by (with_reducible repeat (first | refine blk_drewN ?_ _ | refine blk_drew ?_ | refine blk_alloc ?_ _)); exact BK228.out) hb); have n4_ := Aside0.mk (blk_below (g := gb230) (o := .cells #[u231000, .int .i64 x231001_2] 33 (0, 0)) (by (with_reducible repeat (first | refine blk_drewN ?_ _ | refine blk_drew ?_ | refine blk_alloc ?_ _)); exact BK230.out) hb); have n5_ := Aside0.mk (below_step (by repeat (first | (with_reducible first | exact HB.out | apply below_alloc | apply pw_below_drewN | apply below_drew1 | refine below_set ?_ GE228.out | refine below_set ?_ GE230.out) | exact HB.out)) hb); clear HO_12; clear HO_229002; clear HO_231000; clear BK228; clear BK230; clear HB; have HO_12 := n0_; have HO_229002 := n1_; have HO_231000 := n2_; have BK228 := n3_; have BK230 := n4_; have HB := n5_; clear n0_ n1_ n2_ n3_ n4_ n5_; (try clear hb); (try clear hb2); (try clear hk); (try clear hi)))
       go_ret
       exact ⟨by first | rfl | (simp [errW_none, errW_some] <;> rfl) | (simp [*, errW_none, errW_some] <;> rfl), by repeat (first | (with_reducible first | exact HB.out | apply below_alloc | apply pw_below_drewN | apply below_drew1 | refine below_set ?_ GE228.out | refine below_set ?_ GE230.out) | exact HB.out)⟩

end Go.Proofs.Ytabfaoghacamlaa.H
