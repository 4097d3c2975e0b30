import Derived.Test.YtobdhjnaglikaaaQx0
import Derived.Test.YtobdhjnaglikaaaFind
import Derived.Test.YtobdhjnaglikaaaQx1
import Derived.Test.YtobdhjnaglikaaaQx3
import Derived.Test.YtobdhjnaglikaaaQx5
import Derived.Test.YtobdhjnaglikaaaQx7
namespace Go.Proofs.Ytobdhjnaglikaaa.Q
open Go.RowKit Go.Proofs.YtobdhjnaglikaaaW.PrintWords Go.Proofs.YtobdhjnaglikaaaW.PrintLast Go.Proofs.YtobdhjnaglikaaaW.PrintMore
attribute [local go_sem] max2_int min2_int max_two min_two max_three min_three max_four min_four
set_option linter.unusedVariables false
set_option linter.unusedSimpArgs false
attribute [local go_sem high] eqA25
def samphirelaw11_awake.f (k : Nat)  : Option (Bool) := (heap_Push.f k ([] : List (S25)) (⟨#[97]⟩ : ByteArray) 1 1).bind fun bt210 => ((heap_Push.f k bt210.1 (⟨#[98]⟩ : ByteArray) 3 1).bind fun bt214 => ((heap_Push.f k bt214.1 (⟨#[99]⟩ : ByteArray) 2 1).bind fun bt218 => ((heap_Pop.f k bt218.1).bind fun bt222 => ((heap_Find.f k bt218.1 (⟨#[99]⟩ : ByteArray)).bind fun bt230 => ((heap_Put.f k bt218.1 3 (⟨#[97]⟩ : ByteArray) 1 1).bind fun bt232 => (if bt218.2 = 0 then (if (bt218.1.length : Int) = 3 then (if 0 < (bt218.1.length : Int) then (if ((((rd_T25 bt218.1 0).f0).toList) == ([98] : List UInt8) && (((rd_T25 bt218.1 0).f1) == 3 && (((rd_T25 bt218.1 0).f2) == 1))) = true then (if 1 < (bt218.1.length : Int) then (if ((((rd_T25 bt218.1 1).f0).toList) == ([97] : List UInt8) && (((rd_T25 bt218.1 1).f1) == 1 && (((rd_T25 bt218.1 1).f2) == 1))) = true then (if (bt222.1.toList == ([98] : List UInt8) && (bt222.2.1 == 3 && (bt222.2.2.1 == 1))) = true then (if (bt222.2.2.2.1.length : Int) = 2 then (if 0 < (bt222.2.2.2.1.length : Int) then (if ((((rd_T25 bt222.2.2.2.1 0).f0).toList) == ([99] : List UInt8) && (((rd_T25 bt222.2.2.2.1 0).f1) == 2 && (((rd_T25 bt222.2.2.2.1 0).f2) == 1))) = true then (if bt222.2.2.2.2 = 0 then (if bt230.1 = 2 then (if bt230.2 = true then (if bt232.2 = 3 then ((heap_Right.f k bt218.1).bind fun t239 => (if t239 = true then ((heap_Down.f k bt218.1).bind fun t240 => (some ((t240.length : Int) == 3))) else (none))) else (none)) else (none)) else (none)) else (none)) else (none)) else (none)) else (none)) else (none)) else (none)) else (none)) else (none)) else (none)) else (none)) else (none)))))))
theorem samphirelaw11_awake.mono : ∀ k, LeO (samphirelaw11_awake.f k ) (samphirelaw11_awake.f (k + 1) ) := by
 intro  k
 unfold samphirelaw11_awake.f
 repeat' first
   | (with_reducible exact heap_Down.mono _ _)
   | (with_reducible exact heap_Find.mono _ _ _)
   | (with_reducible exact heap_Pop.mono _ _)
   | (with_reducible exact heap_Push.mono _ _ _ _ _)
   | (with_reducible exact heap_Put.mono _ _ _ _ _ _)
   | (with_reducible exact heap_Right.mono _ _)
   | (with_reducible exact LeO.refl _)
   | (with_reducible exact LeO.none _)
   | (with_reducible refine LeO.ite ?_ ?_)
   | (with_reducible refine LeO.bind ?_ (fun _ => ?_))
   | exact heap_Down.mono _ _
   | exact heap_Find.mono _ _ _
   | exact heap_Pop.mono _ _
   | exact heap_Push.mono _ _ _ _ _
   | exact heap_Put.mono _ _ _ _ _ _
   | exact heap_Right.mono _ _
   | exact LeO.none _
   | refine LeO.ite ?_ ?_
   | refine LeO.bind ?_ (fun _ => ?_)
def samphirelaw11_awake.T8 : Bool × List (List Nat × List Nat) := (true, [([], []), ([0], [0]), ([1], [1]), ([2], [2]), ([3, 2], [2, 3]), ([4, 2], [2, 4]), ([2, 5], [2, 5]), ([6, 2], [6]), ([7], [7]), ([8, 7], [7, 8]), ([9, 7], [7, 9]), ([7], [7]), ([10, 11, 7], [7, 10, 11]), ([7, 12], [7, 12]), ([13, 7], [13]), ([14], [14]), ([15, 14], [14, 15]), ([16, 14], [14, 16]), ([14], [14]), ([17, 18, 14], [14, 17, 18]), ([14, 19], [14, 19]), ([20, 14], [20]), ([21], [21]), ([21], [21]), ([22, 23, 21], [21, 22, 23]), ([21, 24], [21, 24]), ([25, 21], [25]), ([26], [26]), ([27, 26], [26, 27]), ([28, 26], [26, 28]), ([26, 29], [26, 29]), ([30, 26], [30]), ([31], [31]), ([32, 31], [31, 32]), ([33, 31], [31, 33]), ([31], [31]), ([34, 35, 31], [31, 34, 35]), ([31, 36], [31, 36]), ([37, 31], [37]), ([38], [38]), ([39, 38], [38, 39]), ([38, 40], [38, 40]), ([41, 38], [41]), ([42], [42]), ([43, 42], [42, 43]), ([42, 44], [42, 44]), ([45, 42], [45]), ([46], [46]), ([46, 47], [46, 47]), ([48, 46], [48]), ([49], [49]), ([50, 49], [49, 50]), ([49, 51], [49, 51]), ([52, 49], [52]), ([53], [53]), ([54, 53, 53], [53, 54]), ([53, 55], [53, 55]), ([56, 55], [56]), ([57], [57]), ([58, 57, 57], [57, 58]), ([59, 57], [57, 59]), ([60, 57], [57, 60]), ([57, 61], [57, 61]), ([62, 59, 0, 1, 2, 3, 4, 5, 6, 7, 8, 9, 10, 11, 12, 13, 14, 15, 16, 17, 18, 19, 20, 21, 22, 23, 24, 25, 26, 27, 28, 29, 30, 31, 32, 33, 34, 35, 36, 37, 38, 39, 40, 41, 42, 43, 44, 45, 46, 47, 48, 49, 50, 51, 52, 53, 54, 55, 56, 57, 58, 59, 60, 61, 62], [62])])
def samphirelaw11_awake.B8 : List Nat := [0, 1, 3, 7, 15, 31, 63, 127, 255, 511, 1023, 255, 4095, 8191, 16383, 32767, 65535, 131071, 32767, 524287, 1048575, 2097151, 4194303, 4194303, 16777215, 33554431, 67108863, 134217727, 268435455, 536870911, 1073741823, 2147483647, 4294967295, 8589934591, 17179869183, 4294967295, 68719476735, 137438953471, 274877906943, 549755813887, 1099511627775, 2199023255551, 4398046511103, 8796093022207, 17592186044415, 35184372088831, 70368744177663, 140737488355327, 281474976710655, 562949953421311, 1125899906842623, 2251799813685247, 4503599627370495, 9007199254740991, 18014398509481983, 36028797018963967, 72057594037927935, 144115188075855871, 288230376151711743, 576460752303423487, 1152921504606846975, 2305843009213693951, 4611686018427387903, 9223372036854775807]
theorem samphirelaw11_awake.tab8 : rtab .any (opsOf Try.f9 8) = samphirelaw11_awake.T8 := by kernel_rfl
theorem samphirelaw11_awake.bits8 : waitsOk samphirelaw11_awake.T8.2 samphirelaw11_awake.B8 = true := by kernel_rfl
set_option maxHeartbeats 8000000 in
set_option maxRecDepth 100000 in
theorem samphirelaw11_awake.calls (k : Nat)  (r : Bool) (w : World) (h : samphirelaw11_awake.f k  = some r) :
  Calls Try.prog 9 #[] w fun e w' => e = .returned (.bool r) ∧ Below w.heap.size w w' := by
 have hu25 := Try.underlying25
 have HB := Aside0.mk (Below.refl w.heap.size w)
 have H : ((heap_Push.f k ([] : List (S25)) (⟨#[97]⟩ : ByteArray) 1 1).bind fun bt210 => ((heap_Push.f k bt210.1 (⟨#[98]⟩ : ByteArray) 3 1).bind fun bt214 => ((heap_Push.f k bt214.1 (⟨#[99]⟩ : ByteArray) 2 1).bind fun bt218 => ((heap_Pop.f k bt218.1).bind fun bt222 => ((heap_Find.f k bt218.1 (⟨#[99]⟩ : ByteArray)).bind fun bt230 => ((heap_Put.f k bt218.1 3 (⟨#[97]⟩ : ByteArray) 1 1).bind fun bt232 => (if bt218.2 = 0 then (if (bt218.1.length : Int) = 3 then (if 0 < (bt218.1.length : Int) then (if ((((rd_T25 bt218.1 0).f0).toList) == ([98] : List UInt8) && (((rd_T25 bt218.1 0).f1) == 3 && (((rd_T25 bt218.1 0).f2) == 1))) = true then (if 1 < (bt218.1.length : Int) then (if ((((rd_T25 bt218.1 1).f0).toList) == ([97] : List UInt8) && (((rd_T25 bt218.1 1).f1) == 1 && (((rd_T25 bt218.1 1).f2) == 1))) = true then (if (bt222.1.toList == ([98] : List UInt8) && (bt222.2.1 == 3 && (bt222.2.2.1 == 1))) = true then (if (bt222.2.2.2.1.length : Int) = 2 then (if 0 < (bt222.2.2.2.1.length : Int) then (if ((((rd_T25 bt222.2.2.2.1 0).f0).toList) == ([99] : List UInt8) && (((rd_T25 bt222.2.2.2.1 0).f1) == 2 && (((rd_T25 bt222.2.2.2.1 0).f2) == 1))) = true then (if bt222.2.2.2.2 = 0 then (if bt230.1 = 2 then (if bt230.2 = true then (if bt232.2 = 3 then ((heap_Right.f k bt218.1).bind fun t239 => (if t239 = true then ((heap_Down.f k bt218.1).bind fun t240 => (some ((t240.length : Int) == 3))) else (none))) else (none)) else (none)) else (none)) else (none)) else (none)) else (none)) else (none)) else (none)) else (none)) else (none)) else (none)) else (none)) else (none)) else (none)))))))) = some r := h
 clear h
 replace H := Option.bind_eq_some_iff.mp H
 obtain ⟨⟨t210, t213⟩, A10, H⟩ := H
 replace H : ((heap_Push.f k t210 (⟨#[98]⟩ : ByteArray) 3 1).bind fun bt214 => ((heap_Push.f k bt214.1 (⟨#[99]⟩ : ByteArray) 2 1).bind fun bt218 => ((heap_Pop.f k bt218.1).bind fun bt222 => ((heap_Find.f k bt218.1 (⟨#[99]⟩ : ByteArray)).bind fun bt230 => ((heap_Put.f k bt218.1 3 (⟨#[97]⟩ : ByteArray) 1 1).bind fun bt232 => (if bt218.2 = 0 then (if (bt218.1.length : Int) = 3 then (if 0 < (bt218.1.length : Int) then (if ((((rd_T25 bt218.1 0).f0).toList) == ([98] : List UInt8) && (((rd_T25 bt218.1 0).f1) == 3 && (((rd_T25 bt218.1 0).f2) == 1))) = true then (if 1 < (bt218.1.length : Int) then (if ((((rd_T25 bt218.1 1).f0).toList) == ([97] : List UInt8) && (((rd_T25 bt218.1 1).f1) == 1 && (((rd_T25 bt218.1 1).f2) == 1))) = true then (if (bt222.1.toList == ([98] : List UInt8) && (bt222.2.1 == 3 && (bt222.2.2.1 == 1))) = true then (if (bt222.2.2.2.1.length : Int) = 2 then (if 0 < (bt222.2.2.2.1.length : Int) then (if ((((rd_T25 bt222.2.2.2.1 0).f0).toList) == ([99] : List UInt8) && (((rd_T25 bt222.2.2.2.1 0).f1) == 2 && (((rd_T25 bt222.2.2.2.1 0).f2) == 1))) = true then (if bt222.2.2.2.2 = 0 then (if bt230.1 = 2 then (if bt230.2 = true then (if bt232.2 = 3 then ((heap_Right.f k bt218.1).bind fun t239 => (if t239 = true then ((heap_Down.f k bt218.1).bind fun t240 => (some ((t240.length : Int) == 3))) else (none))) else (none)) else (none)) else (none)) else (none)) else (none)) else (none)) else (none)) else (none)) else (none)) else (none)) else (none)) else (none)) else (none)) else (none))))))) = some r := H
 have A1 := Aside0.mk A10
 clear A10
 replace H := Option.bind_eq_some_iff.mp H
 obtain ⟨⟨t214, t217⟩, A20, H⟩ := H
 replace H : ((heap_Push.f k t214 (⟨#[99]⟩ : ByteArray) 2 1).bind fun bt218 => ((heap_Pop.f k bt218.1).bind fun bt222 => ((heap_Find.f k bt218.1 (⟨#[99]⟩ : ByteArray)).bind fun bt230 => ((heap_Put.f k bt218.1 3 (⟨#[97]⟩ : ByteArray) 1 1).bind fun bt232 => (if bt218.2 = 0 then (if (bt218.1.length : Int) = 3 then (if 0 < (bt218.1.length : Int) then (if ((((rd_T25 bt218.1 0).f0).toList) == ([98] : List UInt8) && (((rd_T25 bt218.1 0).f1) == 3 && (((rd_T25 bt218.1 0).f2) == 1))) = true then (if 1 < (bt218.1.length : Int) then (if ((((rd_T25 bt218.1 1).f0).toList) == ([97] : List UInt8) && (((rd_T25 bt218.1 1).f1) == 1 && (((rd_T25 bt218.1 1).f2) == 1))) = true then (if (bt222.1.toList == ([98] : List UInt8) && (bt222.2.1 == 3 && (bt222.2.2.1 == 1))) = true then (if (bt222.2.2.2.1.length : Int) = 2 then (if 0 < (bt222.2.2.2.1.length : Int) then (if ((((rd_T25 bt222.2.2.2.1 0).f0).toList) == ([99] : List UInt8) && (((rd_T25 bt222.2.2.2.1 0).f1) == 2 && (((rd_T25 bt222.2.2.2.1 0).f2) == 1))) = true then (if bt222.2.2.2.2 = 0 then (if bt230.1 = 2 then (if bt230.2 = true then (if bt232.2 = 3 then ((heap_Right.f k bt218.1).bind fun t239 => (if t239 = true then ((heap_Down.f k bt218.1).bind fun t240 => (some ((t240.length : Int) == 3))) else (none))) else (none)) else (none)) else (none)) else (none)) else (none)) else (none)) else (none)) else (none)) else (none)) else (none)) else (none)) else (none)) else (none)) else (none)))))) = some r := H
 have A2 := Aside0.mk A20
 clear A20
 replace H := Option.bind_eq_some_iff.mp H
 obtain ⟨⟨t218, t221⟩, A30, H⟩ := H
 replace H : ((heap_Pop.f k t218).bind fun bt222 => ((heap_Find.f k t218 (⟨#[99]⟩ : ByteArray)).bind fun bt230 => ((heap_Put.f k t218 3 (⟨#[97]⟩ : ByteArray) 1 1).bind fun bt232 => (if t221 = 0 then (if (t218.length : Int) = 3 then (if 0 < (t218.length : Int) then (if ((((rd_T25 t218 0).f0).toList) == ([98] : List UInt8) && (((rd_T25 t218 0).f1) == 3 && (((rd_T25 t218 0).f2) == 1))) = true then (if 1 < (t218.length : Int) then (if ((((rd_T25 t218 1).f0).toList) == ([97] : List UInt8) && (((rd_T25 t218 1).f1) == 1 && (((rd_T25 t218 1).f2) == 1))) = true then (if (bt222.1.toList == ([98] : List UInt8) && (bt222.2.1 == 3 && (bt222.2.2.1 == 1))) = true then (if (bt222.2.2.2.1.length : Int) = 2 then (if 0 < (bt222.2.2.2.1.length : Int) then (if ((((rd_T25 bt222.2.2.2.1 0).f0).toList) == ([99] : List UInt8) && (((rd_T25 bt222.2.2.2.1 0).f1) == 2 && (((rd_T25 bt222.2.2.2.1 0).f2) == 1))) = true then (if bt222.2.2.2.2 = 0 then (if bt230.1 = 2 then (if bt230.2 = true then (if bt232.2 = 3 then ((heap_Right.f k t218).bind fun t239 => (if t239 = true then ((heap_Down.f k t218).bind fun t240 => (some ((t240.length : Int) == 3))) else (none))) else (none)) else (none)) else (none)) else (none)) else (none)) else (none)) else (none)) else (none)) else (none)) else (none)) else (none)) else (none)) else (none)) else (none))))) = some r := H
 have A3 := Aside0.mk A30
 clear A30
 replace H := Option.bind_eq_some_iff.mp H
 obtain ⟨⟨t222, t223, t224, t225, t228⟩, A40, H⟩ := H
 replace H : ((heap_Find.f k t218 (⟨#[99]⟩ : ByteArray)).bind fun bt230 => ((heap_Put.f k t218 3 (⟨#[97]⟩ : ByteArray) 1 1).bind fun bt232 => (if t221 = 0 then (if (t218.length : Int) = 3 then (if 0 < (t218.length : Int) then (if ((((rd_T25 t218 0).f0).toList) == ([98] : List UInt8) && (((rd_T25 t218 0).f1) == 3 && (((rd_T25 t218 0).f2) == 1))) = true then (if 1 < (t218.length : Int) then (if ((((rd_T25 t218 1).f0).toList) == ([97] : List UInt8) && (((rd_T25 t218 1).f1) == 1 && (((rd_T25 t218 1).f2) == 1))) = true then (if (t222.toList == ([98] : List UInt8) && (t223 == 3 && (t224 == 1))) = true then (if (t225.length : Int) = 2 then (if 0 < (t225.length : Int) then (if ((((rd_T25 t225 0).f0).toList) == ([99] : List UInt8) && (((rd_T25 t225 0).f1) == 2 && (((rd_T25 t225 0).f2) == 1))) = true then (if t228 = 0 then (if bt230.1 = 2 then (if bt230.2 = true then (if bt232.2 = 3 then ((heap_Right.f k t218).bind fun t239 => (if t239 = true then ((heap_Down.f k t218).bind fun t240 => (some ((t240.length : Int) == 3))) else (none))) else (none)) else (none)) else (none)) else (none)) else (none)) else (none)) else (none)) else (none)) else (none)) else (none)) else (none)) else (none)) else (none)) else (none)))) = some r := H
 have A4 := Aside0.mk A40
 clear A40
 replace H := Option.bind_eq_some_iff.mp H
 obtain ⟨⟨t230, t231⟩, A50, H⟩ := H
 replace H : ((heap_Put.f k t218 3 (⟨#[97]⟩ : ByteArray) 1 1).bind fun bt232 => (if t221 = 0 then (if (t218.length : Int) = 3 then (if 0 < (t218.length : Int) then (if ((((rd_T25 t218 0).f0).toList) == ([98] : List UInt8) && (((rd_T25 t218 0).f1) == 3 && (((rd_T25 t218 0).f2) == 1))) = true then (if 1 < (t218.length : Int) then (if ((((rd_T25 t218 1).f0).toList) == ([97] : List UInt8) && (((rd_T25 t218 1).f1) == 1 && (((rd_T25 t218 1).f2) == 1))) = true then (if (t222.toList == ([98] : List UInt8) && (t223 == 3 && (t224 == 1))) = true then (if (t225.length : Int) = 2 then (if 0 < (t225.length : Int) then (if ((((rd_T25 t225 0).f0).toList) == ([99] : List UInt8) && (((rd_T25 t225 0).f1) == 2 && (((rd_T25 t225 0).f2) == 1))) = true then (if t228 = 0 then (if t230 = 2 then (if t231 = true then (if bt232.2 = 3 then ((heap_Right.f k t218).bind fun t239 => (if t239 = true then ((heap_Down.f k t218).bind fun t240 => (some ((t240.length : Int) == 3))) else (none))) else (none)) else (none)) else (none)) else (none)) else (none)) else (none)) else (none)) else (none)) else (none)) else (none)) else (none)) else (none)) else (none)) else (none))) = some r := H
 have A5 := Aside0.mk A50
 clear A50
 replace H := Option.bind_eq_some_iff.mp H
 obtain ⟨⟨t232, t235⟩, A60, H⟩ := H
 replace H : (if t221 = 0 then (if (t218.length : Int) = 3 then (if 0 < (t218.length : Int) then (if ((((rd_T25 t218 0).f0).toList) == ([98] : List UInt8) && (((rd_T25 t218 0).f1) == 3 && (((rd_T25 t218 0).f2) == 1))) = true then (if 1 < (t218.length : Int) then (if ((((rd_T25 t218 1).f0).toList) == ([97] : List UInt8) && (((rd_T25 t218 1).f1) == 1 && (((rd_T25 t218 1).f2) == 1))) = true then (if (t222.toList == ([98] : List UInt8) && (t223 == 3 && (t224 == 1))) = true then (if (t225.length : Int) = 2 then (if 0 < (t225.length : Int) then (if ((((rd_T25 t225 0).f0).toList) == ([99] : List UInt8) && (((rd_T25 t225 0).f1) == 2 && (((rd_T25 t225 0).f2) == 1))) = true then (if t228 = 0 then (if t230 = 2 then (if t231 = true then (if t235 = 3 then ((heap_Right.f k t218).bind fun t239 => (if t239 = true then ((heap_Down.f k t218).bind fun t240 => (some ((t240.length : Int) == 3))) else (none))) else (none)) else (none)) else (none)) else (none)) else (none)) else (none)) else (none)) else (none)) else (none)) else (none)) else (none)) else (none)) else (none)) else (none)) = some r := H
 have A6 := Aside0.mk A60
 clear A60
 by_cases c7 : t221 = 0
 ·
  rw [if_pos c7] at H
  have c7b0 : (t221 == 0) = true := beq_iff_eq.mpr c7
  have c7b1 : (t221 != 0) = false := bne_eq_false_iff_eq.mpr c7
  clear c7
  by_cases c8 : (t218.length : Int) = 3
  ·
   rw [if_pos c8] at H
   have c8b0 : ((t218.length : Int) == 3) = true := beq_iff_eq.mpr c8
   have c8b1 : ((t218.length : Int) != 3) = false := bne_eq_false_iff_eq.mpr c8
   clear c8
   by_cases c9 : 0 < (t218.length : Int)
   ·
    rw [if_pos c9] at H
    have c9b0 : decide (0 < (t218.length : Int)) = true := decide_eq_true c9
    have c9b1 : decide (0 < t218.length) = true := decide_eq_true (by omega)
    clear c9
    by_cases c10 : ((((rd_T25 t218 0).f0).toList) == ([98] : List UInt8) && (((rd_T25 t218 0).f1) == 3 && (((rd_T25 t218 0).f2) == 1))) = true
    ·
     rw [if_pos c10] at H
     have c10b0 : ((((rd_T25 t218 0).f0).toList) == ([98] : List UInt8) && (((rd_T25 t218 0).f1) == 3 && (((rd_T25 t218 0).f2) == 1))) = true := c10
     (try (have c10b1 : decide ((((rd_T25 t218 0).f0).toList) = ([98] : List UInt8) && (((rd_T25 t218 0).f1) == 3 && (((rd_T25 t218 0).f2) == 1))) = true := by simpa using c10))
     (try (have c10b2 : ((((rd_T25 t218 0).f0).toList) == ([98] : List UInt8) && (((rd_T25 t218 0).f1) == 3 && (((rd_T25 t218 0).f2) == 1))) = true := by simpa using c10))
     clear c10
     by_cases c11 : 1 < (t218.length : Int)
     ·
      rw [if_pos c11] at H
      have c11b0 : decide (1 < (t218.length : Int)) = true := decide_eq_true c11
      have c11b1 : decide (1 < t218.length) = true := decide_eq_true (by omega)
      clear c11
      by_cases c12 : ((((rd_T25 t218 1).f0).toList) == ([97] : List UInt8) && (((rd_T25 t218 1).f1) == 1 && (((rd_T25 t218 1).f2) == 1))) = true
      ·
       rw [if_pos c12] at H
       have c12b0 : ((((rd_T25 t218 1).f0).toList) == ([97] : List UInt8) && (((rd_T25 t218 1).f1) == 1 && (((rd_T25 t218 1).f2) == 1))) = true := c12
       (try (have c12b1 : decide ((((rd_T25 t218 1).f0).toList) = ([97] : List UInt8) && (((rd_T25 t218 1).f1) == 1 && (((rd_T25 t218 1).f2) == 1))) = true := by simpa using c12))
       (try (have c12b2 : ((((rd_T25 t218 1).f0).toList) == ([97] : List UInt8) && (((rd_T25 t218 1).f1) == 1 && (((rd_T25 t218 1).f2) == 1))) = true := by simpa using c12))
       clear c12
       by_cases c13 : (t222.toList == ([98] : List UInt8) && (t223 == 3 && (t224 == 1))) = true
       ·
        rw [if_pos c13] at H
        have c13b0 : (t222.toList == ([98] : List UInt8) && (t223 == 3 && (t224 == 1))) = true := c13
        (try (have c13b1 : decide (t222.toList = ([98] : List UInt8) && (t223 == 3 && (t224 == 1))) = true := by simpa using c13))
        (try (have c13b2 : (t222.toList == ([98] : List UInt8) && (t223 == 3 && (t224 == 1))) = true := by simpa using c13))
        clear c13
        by_cases c14 : (t225.length : Int) = 2
        ·
         rw [if_pos c14] at H
         have c14b0 : ((t225.length : Int) == 2) = true := beq_iff_eq.mpr c14
         have c14b1 : ((t225.length : Int) != 2) = false := bne_eq_false_iff_eq.mpr c14
         clear c14
         by_cases c15 : 0 < (t225.length : Int)
         ·
          rw [if_pos c15] at H
          have c15b0 : decide (0 < (t225.length : Int)) = true := decide_eq_true c15
          have c15b1 : decide (0 < t225.length) = true := decide_eq_true (by omega)
          clear c15
          by_cases c16 : ((((rd_T25 t225 0).f0).toList) == ([99] : List UInt8) && (((rd_T25 t225 0).f1) == 2 && (((rd_T25 t225 0).f2) == 1))) = true
          ·
           rw [if_pos c16] at H
           have c16b0 : ((((rd_T25 t225 0).f0).toList) == ([99] : List UInt8) && (((rd_T25 t225 0).f1) == 2 && (((rd_T25 t225 0).f2) == 1))) = true := c16
           (try (have c16b1 : decide ((((rd_T25 t225 0).f0).toList) = ([99] : List UInt8) && (((rd_T25 t225 0).f1) == 2 && (((rd_T25 t225 0).f2) == 1))) = true := by simpa using c16))
           (try (have c16b2 : ((((rd_T25 t225 0).f0).toList) == ([99] : List UInt8) && (((rd_T25 t225 0).f1) == 2 && (((rd_T25 t225 0).f2) == 1))) = true := by simpa using c16))
           clear c16
           by_cases c17 : t228 = 0
           ·
            rw [if_pos c17] at H
            have c17b0 : (t228 == 0) = true := beq_iff_eq.mpr c17
            have c17b1 : (t228 != 0) = false := bne_eq_false_iff_eq.mpr c17
            clear c17
            by_cases c18 : t230 = 2
            ·
             rw [if_pos c18] at H
             have c18b0 : (t230 == 2) = true := beq_iff_eq.mpr c18
             have c18b1 : (t230 != 2) = false := bne_eq_false_iff_eq.mpr c18
             clear c18
             by_cases c19 : t231 = true
             ·
              subst c19
              have H1 : (if t235 = 3 then ((heap_Right.f k t218).bind fun t239 => (if t239 = true then ((heap_Down.f k t218).bind fun t240 => (some ((t240.length : Int) == 3))) else (none))) else (none)) = some r := by rw [if_pos rfl] at H; exact H
              clear H
              have H := H1
              clear H1
              by_cases c20 : t235 = 3
              ·
               rw [if_pos c20] at H
               have c20b0 : (t235 == 3) = true := beq_iff_eq.mpr c20
               have c20b1 : (t235 != 3) = false := bne_eq_false_iff_eq.mpr c20
               clear c20
               replace H := Option.bind_eq_some_iff.mp H
               obtain ⟨t239, A210, H⟩ := H
               replace H : (if t239 = true then ((heap_Down.f k t218).bind fun t240 => (some ((t240.length : Int) == 3))) else (none)) = some r := H
               have A21 := Aside0.mk A210
               clear A210
               by_cases c22 : t239 = true
               ·
                subst c22
                have H1 : ((heap_Down.f k t218).bind fun t240 => (some ((t240.length : Int) == 3))) = some r := by rw [if_pos rfl] at H; exact H
                clear H
                have H := H1
                clear H1
                replace H := Option.bind_eq_some_iff.mp H
                obtain ⟨t240, A230, H⟩ := H
                replace H : (some ((t240.length : Int) == 3)) = some r := H
                have A23 := Aside0.mk A230
                clear A230
                obtain rfl := Option.some.inj H
                go_enter Try.func9, Try.ntmps9
                try go_wp2_with (first | ((with_reducible refine gate_dst (N := 1) rfl ?_); (try (refine gate_guard (by rfl) ?_; dsimp only)); refine box_event ?hg (N := 1) ?hd (cs := #[.string (⟨#[]⟩ : ByteArray), .int .u64 0, .int .u64 0]) (t := 25) ?hr ?_; (case hd => rfl); (case hg => rfl); (case hr => first | (go_simp; done) | (go_simp; rfl)); intro gb207 hg w24 hbox hb; have n0_ := Aside0.mk (below_step (bW HB.out) hb); have n1_ := Aside0.mk (hbox); have n2_ := Aside0.mk ((by rw [hg]; exact (below_size (bW HB.out)) : w.heap.size ≤ gb207)); have n3_ := Aside0.mk ((by rw [hg]; exact (below_size (bW HB.out)) : w.heap.size ≤ gb207)); clear HB; have HB := n0_; have BK207 := n1_; have GW207 := n2_; have GE207 := n3_; clear n0_ n1_ n2_ n3_ hb hbox hg) | ((with_reducible refine gate_dst (N := 2) rfl ?_); (try (refine gate_guard (by rfl) ?_; dsimp only)); refine box_event ?hg (N := 2) ?hd (cs := #[.string (⟨#[]⟩ : ByteArray), .int .u64 0, .int .u64 0]) (t := 25) ?hr ?_; (case hd => rfl); (case hg => rfl); (case hr => first | (go_simp; done) | (go_simp; rfl)); intro gb208 hg w25 hbox hb; have n0_ := Aside0.mk (blk_below (bT BK207.out) hb); have n1_ := Aside0.mk (below_step (bW HB.out) hb); have n2_ := Aside0.mk (hbox); have n3_ := Aside0.mk ((by rw [hg]; exact (below_size (bW HB.out)) : w.heap.size ≤ gb208)); have n4_ := Aside0.mk ((by rw [hg]; exact (below_size (bW HB.out)) : w.heap.size ≤ gb208)); have n5_ := Aside0.mk ((by rw [hg]; exact Nat.ne_of_lt (blk_lt (bT BK207.out)) : gb207 ≠ gb208)); have n6_ := Aside0.mk ((by rw [hg]; exact Nat.ne_of_gt (blk_lt (bT BK207.out)) : gb208 ≠ gb207)); clear BK207 HB; have BK207 := n0_; have HB := n1_; have BK208 := n2_; have GW208 := n3_; have GE208 := n4_; have NB207_208 := n5_; have NB208_207 := n6_; clear n0_ n1_ n2_ n3_ n4_ n5_ n6_ hb hbox hg) | ((with_reducible refine gate_dst (N := 3) rfl ?_); (try (refine gate_guard (by rfl) ?_; dsimp only)); refine box_event ?hg (N := 3) ?hd (cs := #[.string (⟨#[]⟩ : ByteArray), .int .u64 0, .int .u64 0]) (t := 25) ?hr ?_; (case hd => rfl); (case hg => rfl); (case hr => first | (go_simp; done) | (go_simp; rfl)); intro gb209 hg w26 hbox hb; have n0_ := Aside0.mk (blk_below (bT BK207.out) hb); have n1_ := Aside0.mk (blk_below (bT BK208.out) hb); have n2_ := Aside0.mk (below_step (bW HB.out) hb); have n3_ := Aside0.mk (hbox); have n4_ := Aside0.mk ((by rw [hg]; exact (below_size (bW HB.out)) : w.heap.size ≤ gb209)); have n5_ := Aside0.mk ((by rw [hg]; exact (below_size (bW HB.out)) : w.heap.size ≤ gb209)); have n6_ := Aside0.mk ((by rw [hg]; exact Nat.ne_of_lt (blk_lt (bT BK207.out)) : gb207 ≠ gb209)); have n7_ := Aside0.mk ((by rw [hg]; exact Nat.ne_of_gt (blk_lt (bT BK207.out)) : gb209 ≠ gb207)); have n8_ := Aside0.mk ((by rw [hg]; exact Nat.ne_of_lt (blk_lt (bT BK208.out)) : gb208 ≠ gb209)); have n9_ := Aside0.mk ((by rw [hg]; exact Nat.ne_of_gt (blk_lt (bT BK208.out)) : gb209 ≠ gb208)); clear BK207 BK208 HB; have BK207 := n0_; have BK208 := n1_; have HB := n2_; have BK209 := n3_; have GW209 := n4_; have GE209 := n5_; have NB207_209 := n6_; have NB209_207 := n7_; have NB208_209 := n8_; have NB209_208 := n9_; clear n0_ n1_ n2_ n3_ n4_ n5_ n6_ n7_ n8_ n9_ hb hbox hg; have hnb27 := NB207_208.out; have hnc27 := NB208_207.out; have hnb28 := NB207_209.out; have hnc28 := NB209_207.out; have hcz29_0 : w26.cell? ⟨gb207, 0, none⟩ = some (.string (⟨#[]⟩ : ByteArray)) := (blk_cell BK207.out 0).trans rfl; have hcz29_1 : w26.cell? ⟨gb207, 1, none⟩ = some (.int .u64 0) := (blk_cell BK207.out 1).trans rfl; have hcz29_2 : w26.cell? ⟨gb207, 2, none⟩ = some (.int .u64 0) := (blk_cell BK207.out 2).trans rfl; have hfz29_0 := blk_frozen BK207.out 0; have hfz29_1 := blk_frozen BK207.out 1; have hfz29_2 := blk_frozen BK207.out 2) | ((with_reducible refine gate_store (t := 25) (p := 1) rfl ?_); refine store_event (t := 25) (p := 1) (v := ?vo_w30) (w1 := (((w26.setCell ⟨gb207, 0, none⟩ (.string (⟨#[97]⟩ : ByteArray))).setCell ⟨gb207, 1, none⟩ (.int .u64 1)).setCell ⟨gb207, 2, none⟩ (.int .u64 1))) ?hg ?ho ?hn ?hr ?_; (case ho => rfl); (case hg => rfl); (case hn => rfl); (case hr => first | (go_simp; done) | (go_simp; rfl)); intro w30 hw; have n0_ : Aside0 (w30.heap[gb207]? = some (.cells #[.string (⟨#[97]⟩ : ByteArray), .int .u64 1, .int .u64 1] 25 (0, 0))) := ⟨(by rw [hw]; exact (by (with_reducible repeat (first | refine blk_drewN ?_ _ | refine blk_drew ?_ | refine blk_alloc ?_ _)); refine blk_put (cs := #[.string (⟨#[97]⟩ : ByteArray), .int .u64 1, .int .u64 0]) ?_ 2 _ rfl; (with_reducible repeat (first | refine blk_drewN ?_ _ | refine blk_drew ?_ | refine blk_alloc ?_ _)); refine blk_put (cs := #[.string (⟨#[97]⟩ : ByteArray), .int .u64 0, .int .u64 0]) ?_ 1 _ rfl; (with_reducible repeat (first | refine blk_drewN ?_ _ | refine blk_drew ?_ | refine blk_alloc ?_ _)); refine blk_put (cs := #[.string (⟨#[]⟩ : ByteArray), .int .u64 0, .int .u64 0]) ?_ 0 _ rfl; (with_reducible repeat (first | refine blk_drewN ?_ _ | refine blk_drew ?_ | refine blk_alloc ?_ _)); exact BK207.out))⟩; have n1_ : Aside0 (w30.heap[gb208]? = some (.cells #[.string (⟨#[]⟩ : ByteArray), .int .u64 0, .int .u64 0] 25 (0, 0))) := ⟨(by rw [hw]; exact (by (with_reducible repeat (first | refine blk_drewN ?_ _ | refine blk_drew ?_ | refine blk_alloc ?_ _)); refine blk_far ?_ NB208_207.out _; (with_reducible repeat (first | refine blk_drewN ?_ _ | refine blk_drew ?_ | refine blk_alloc ?_ _)); refine blk_far ?_ NB208_207.out _; (with_reducible repeat (first | refine blk_drewN ?_ _ | refine blk_drew ?_ | refine blk_alloc ?_ _)); refine blk_far ?_ NB208_207.out _; (with_reducible repeat (first | refine blk_drewN ?_ _ | refine blk_drew ?_ | refine blk_alloc ?_ _)); exact BK208.out))⟩; have n2_ : Aside0 (w30.heap[gb209]? = some (.cells #[.string (⟨#[]⟩ : ByteArray), .int .u64 0, .int .u64 0] 25 (0, 0))) := ⟨(by rw [hw]; exact (by (with_reducible repeat (first | refine blk_drewN ?_ _ | refine blk_drew ?_ | refine blk_alloc ?_ _)); refine blk_far ?_ NB209_207.out _; (with_reducible repeat (first | refine blk_drewN ?_ _ | refine blk_drew ?_ | refine blk_alloc ?_ _)); refine blk_far ?_ NB209_207.out _; (with_reducible repeat (first | refine blk_drewN ?_ _ | refine blk_drew ?_ | refine blk_alloc ?_ _)); refine blk_far ?_ NB209_207.out _; (with_reducible repeat (first | refine blk_drewN ?_ _ | refine blk_drew ?_ | refine blk_alloc ?_ _)); exact BK209.out))⟩; have n3_ : Aside0 (Below w.heap.size w w30) := ⟨(by rw [hw]; exact (bW HB.out))⟩; clear hw BK207 BK208 BK209 HB; have BK207 := n0_; have BK208 := n1_; have BK209 := n2_; have HB := n3_; clear n0_ n1_ n2_ n3_; have hnb31 := NB208_209.out; have hnc31 := NB209_208.out; have hcz32_0 : w30.cell? ⟨gb208, 0, none⟩ = some (.string (⟨#[]⟩ : ByteArray)) := (blk_cell BK208.out 0).trans rfl; have hcz32_1 : w30.cell? ⟨gb208, 1, none⟩ = some (.int .u64 0) := (blk_cell BK208.out 1).trans rfl; have hcz32_2 : w30.cell? ⟨gb208, 2, none⟩ = some (.int .u64 0) := (blk_cell BK208.out 2).trans rfl; have hfz32_0 := blk_frozen BK208.out 0; have hfz32_1 := blk_frozen BK208.out 1; have hfz32_2 := blk_frozen BK208.out 2) | ((with_reducible refine gate_store (t := 25) (p := 2) rfl ?_); refine store_event (t := 25) (p := 2) (v := ?vo_w33) (w1 := (((w30.setCell ⟨gb208, 0, none⟩ (.string (⟨#[98]⟩ : ByteArray))).setCell ⟨gb208, 1, none⟩ (.int .u64 3)).setCell ⟨gb208, 2, none⟩ (.int .u64 1))) ?hg ?ho ?hn ?hr ?_; (case ho => rfl); (case hg => rfl); (case hn => rfl); (case hr => first | (go_simp; done) | (go_simp; rfl)); intro w33 hw; have n0_ : Aside0 (w33.heap[gb207]? = some (.cells #[.string (⟨#[97]⟩ : ByteArray), .int .u64 1, .int .u64 1] 25 (0, 0))) := ⟨(by rw [hw]; exact (by (with_reducible repeat (first | refine blk_drewN ?_ _ | refine blk_drew ?_ | refine blk_alloc ?_ _)); refine blk_far ?_ NB207_208.out _; (with_reducible repeat (first | refine blk_drewN ?_ _ | refine blk_drew ?_ | refine blk_alloc ?_ _)); refine blk_far ?_ NB207_208.out _; (with_reducible repeat (first | refine blk_drewN ?_ _ | refine blk_drew ?_ | refine blk_alloc ?_ _)); refine blk_far ?_ NB207_208.out _; (with_reducible repeat (first | refine blk_drewN ?_ _ | refine blk_drew ?_ | refine blk_alloc ?_ _)); exact BK207.out))⟩; have n1_ : Aside0 (w33.heap[gb208]? = some (.cells #[.string (⟨#[98]⟩ : ByteArray), .int .u64 3, .int .u64 1] 25 (0, 0))) := ⟨(by rw [hw]; exact (by (with_reducible repeat (first | refine blk_drewN ?_ _ | refine blk_drew ?_ | refine blk_alloc ?_ _)); refine blk_put (cs := #[.string (⟨#[98]⟩ : ByteArray), .int .u64 3, .int .u64 0]) ?_ 2 _ rfl; (with_reducible repeat (first | refine blk_drewN ?_ _ | refine blk_drew ?_ | refine blk_alloc ?_ _)); refine blk_put (cs := #[.string (⟨#[98]⟩ : ByteArray), .int .u64 0, .int .u64 0]) ?_ 1 _ rfl; (with_reducible repeat (first | refine blk_drewN ?_ _ | refine blk_drew ?_ | refine blk_alloc ?_ _)); refine blk_put (cs := #[.string (⟨#[]⟩ : ByteArray), .int .u64 0, .int .u64 0]) ?_ 0 _ rfl; (with_reducible repeat (first | refine blk_drewN ?_ _ | refine blk_drew ?_ | refine blk_alloc ?_ _)); exact BK208.out))⟩; have n2_ : Aside0 (w33.heap[gb209]? = some (.cells #[.string (⟨#[]⟩ : ByteArray), .int .u64 0, .int .u64 0] 25 (0, 0))) := ⟨(by rw [hw]; exact (by (with_reducible repeat (first | refine blk_drewN ?_ _ | refine blk_drew ?_ | refine blk_alloc ?_ _)); refine blk_far ?_ NB209_208.out _; (with_reducible repeat (first | refine blk_drewN ?_ _ | refine blk_drew ?_ | refine blk_alloc ?_ _)); refine blk_far ?_ NB209_208.out _; (with_reducible repeat (first | refine blk_drewN ?_ _ | refine blk_drew ?_ | refine blk_alloc ?_ _)); refine blk_far ?_ NB209_208.out _; (with_reducible repeat (first | refine blk_drewN ?_ _ | refine blk_drew ?_ | refine blk_alloc ?_ _)); exact BK209.out))⟩; have n3_ : Aside0 (Below w.heap.size w w33) := ⟨(by rw [hw]; exact (bW HB.out))⟩; clear hw BK207 BK208 BK209 HB; have BK207 := n0_; have BK208 := n1_; have BK209 := n2_; have HB := n3_; clear n0_ n1_ n2_ n3_; have hcz34_0 : w33.cell? ⟨gb209, 0, none⟩ = some (.string (⟨#[]⟩ : ByteArray)) := (blk_cell BK209.out 0).trans rfl; have hcz34_1 : w33.cell? ⟨gb209, 1, none⟩ = some (.int .u64 0) := (blk_cell BK209.out 1).trans rfl; have hcz34_2 : w33.cell? ⟨gb209, 2, none⟩ = some (.int .u64 0) := (blk_cell BK209.out 2).trans rfl; have hfz34_0 := blk_frozen BK209.out 0; have hfz34_1 := blk_frozen BK209.out 1; have hfz34_2 := blk_frozen BK209.out 2) | ((with_reducible refine gate_store (t := 25) (p := 3) rfl ?_); refine store_event (t := 25) (p := 3) (v := ?vo_w35) (w1 := (((w33.setCell ⟨gb209, 0, none⟩ (.string (⟨#[99]⟩ : ByteArray))).setCell ⟨gb209, 1, none⟩ (.int .u64 2)).setCell ⟨gb209, 2, none⟩ (.int .u64 1))) ?hg ?ho ?hn ?hr ?_; (case ho => rfl); (case hg => rfl); (case hn => rfl); (case hr => first | (go_simp; done) | (go_simp; rfl)); intro w35 hw; have n0_ : Aside0 (w35.heap[gb207]? = some (.cells #[.string (⟨#[97]⟩ : ByteArray), .int .u64 1, .int .u64 1] 25 (0, 0))) := ⟨(by rw [hw]; exact (by (with_reducible repeat (first | refine blk_drewN ?_ _ | refine blk_drew ?_ | refine blk_alloc ?_ _)); refine blk_far ?_ NB207_209.out _; (with_reducible repeat (first | refine blk_drewN ?_ _ | refine blk_drew ?_ | refine blk_alloc ?_ _)); refine blk_far ?_ NB207_209.out _; (with_reducible repeat (first | refine blk_drewN ?_ _ | refine blk_drew ?_ | refine blk_alloc ?_ _)); refine blk_far ?_ NB207_209.out _; (with_reducible repeat (first | refine blk_drewN ?_ _ | refine blk_drew ?_ | refine blk_alloc ?_ _)); exact BK207.out))⟩; have n1_ : Aside0 (w35.heap[gb208]? = some (.cells #[.string (⟨#[98]⟩ : ByteArray), .int .u64 3, .int .u64 1] 25 (0, 0))) := ⟨(by rw [hw]; exact (by (with_reducible repeat (first | refine blk_drewN ?_ _ | refine blk_drew ?_ | refine blk_alloc ?_ _)); refine blk_far ?_ NB208_209.out _; (with_reducible repeat (first | refine blk_drewN ?_ _ | refine blk_drew ?_ | refine blk_alloc ?_ _)); refine blk_far ?_ NB208_209.out _; (with_reducible repeat (first | refine blk_drewN ?_ _ | refine blk_drew ?_ | refine blk_alloc ?_ _)); refine blk_far ?_ NB208_209.out _; (with_reducible repeat (first | refine blk_drewN ?_ _ | refine blk_drew ?_ | refine blk_alloc ?_ _)); exact BK208.out))⟩; have n2_ : Aside0 (w35.heap[gb209]? = some (.cells #[.string (⟨#[99]⟩ : ByteArray), .int .u64 2, .int .u64 1] 25 (0, 0))) := ⟨(by rw [hw]; exact (by (with_reducible repeat (first | refine blk_drewN ?_ _ | refine blk_drew ?_ | refine blk_alloc ?_ _)); refine blk_put (cs := #[.string (⟨#[99]⟩ : ByteArray), .int .u64 2, .int .u64 0]) ?_ 2 _ rfl; (with_reducible repeat (first | refine blk_drewN ?_ _ | refine blk_drew ?_ | refine blk_alloc ?_ _)); refine blk_put (cs := #[.string (⟨#[99]⟩ : ByteArray), .int .u64 0, .int .u64 0]) ?_ 1 _ rfl; (with_reducible repeat (first | refine blk_drewN ?_ _ | refine blk_drew ?_ | refine blk_alloc ?_ _)); refine blk_put (cs := #[.string (⟨#[]⟩ : ByteArray), .int .u64 0, .int .u64 0]) ?_ 0 _ rfl; (with_reducible repeat (first | refine blk_drewN ?_ _ | refine blk_drew ?_ | refine blk_alloc ?_ _)); exact BK209.out))⟩; have n3_ : Aside0 (Below w.heap.size w w35) := ⟨(by rw [hw]; exact (bW HB.out))⟩; clear hw BK207 BK208 BK209 HB; have BK207 := n0_; have BK208 := n1_; have BK209 := n2_; have HB := n3_; clear n0_ n1_ n2_ n3_; have hcz36_0 : w35.cell? ⟨gb207, 0, none⟩ = some (.string (⟨#[97]⟩ : ByteArray)) := (blk_cell BK207.out 0).trans rfl; have hcz36_1 : w35.cell? ⟨gb207, 1, none⟩ = some (.int .u64 1) := (blk_cell BK207.out 1).trans rfl; have hcz36_2 : w35.cell? ⟨gb207, 2, none⟩ = some (.int .u64 1) := (blk_cell BK207.out 2).trans rfl; have hfz36_0 := blk_frozen BK207.out 0; have hfz36_1 := blk_frozen BK207.out 1; have hfz36_2 := blk_frozen BK207.out 2) | ((with_reducible refine gate_callee (f := 10) rfl ?_); refine goesL_ (some 19) rfl rfl Try.func10 (by kernel_rfl) rfl #[.slice none 0 0, .agg #[.string (⟨#[97]⟩ : ByteArray), .int .u64 1, .int .u64 1]] rfl (by (try simp only [List.map_toArray, List.map_cons, List.map_nil]); first | done | rfl | (simp only [List.length_drop, List.length_take]; rfl)) ?_; (refine (heap_Push.calls k (fun k_ => False) _ _ ([] : List (S25)) (⟨#[97]⟩ : ByteArray) 1 1 t210 t213 _ ?side1 A1.out).mono ?_); (case side1 => exact Kd.V_nil _ _ _ _ _); rintro e w37 ⟨v211, rfl, ho0, hb⟩; refine ⟨_, rfl, ?_⟩; have n0_ := Aside0.mk (Kd.V_lower (Kd.V_mono (ok' := fun k_ => k_ ≠ gb207 ∧ k_ ≠ gb208 ∧ k_ ≠ gb209) ho0 (fun k_ hk_ => ⟨Or.elim hk_ (fun hs_ => (hs_).elim) (fun hn_ => (Kd.freshB (bT BK207.out) k_ hn_)), Or.elim hk_ (fun hs_ => (hs_).elim) (fun hn_ => (Kd.freshB (bT BK208.out) k_ hn_)), Or.elim hk_ (fun hs_ => (hs_).elim) (fun hn_ => (Kd.freshB (bT BK209.out) k_ hn_))⟩)) (below_size (bW HB.out))); have n1_ := Aside0.mk (blk_below (bT BK207.out) hb); have n2_ := Aside0.mk (blk_below (bT BK208.out) hb); have n3_ := Aside0.mk (blk_below (bT BK209.out) hb); have n4_ := Aside0.mk (below_step (bW HB.out) hb); clear BK207 BK208 BK209 HB; have HO212 := n0_; have BK207 := n1_; have BK208 := n2_; have BK209 := n3_; have HB := n4_; clear n0_ n1_ n2_ n3_ n4_; (try clear hb); (try clear hb2); (try clear hk); (try clear hi); (try clear ho0); have hcz38_0 : w37.cell? ⟨gb208, 0, none⟩ = some (.string (⟨#[98]⟩ : ByteArray)) := (blk_cell BK208.out 0).trans rfl; have hcz38_1 : w37.cell? ⟨gb208, 1, none⟩ = some (.int .u64 3) := (blk_cell BK208.out 1).trans rfl; have hcz38_2 : w37.cell? ⟨gb208, 2, none⟩ = some (.int .u64 1) := (blk_cell BK208.out 2).trans rfl; have hfz38_0 := blk_frozen BK208.out 0; have hfz38_1 := blk_frozen BK208.out 1; have hfz38_2 := blk_frozen BK208.out 2; obtain ⟨Ao39, co39, eo39⟩ := Kd.V_slice HO212.out; subst eo39) | ((with_reducible refine gate_callee (f := 10) rfl ?_); refine goesL_ (some 25) rfl rfl Try.func10 (by kernel_rfl) rfl #[.slice Ao39 t210.length co39, .agg #[.string (⟨#[98]⟩ : ByteArray), .int .u64 3, .int .u64 1]] rfl (by (try simp only [List.map_toArray, List.map_cons, List.map_nil]); first | done | rfl | (simp only [List.length_drop, List.length_take]; rfl)) ?_; (with_reducible refine (heap_Push.calls k (fun k_ => (k_ ≠ gb207 ∧ (k_ ≠ gb208 ∧ k_ ≠ gb209))) _ _ t210 (⟨#[98]⟩ : ByteArray) 3 1 t214 t217 _ ?side1 A2.out).mono ?_); (case side1 => exact HO212.out); rintro e w40 ⟨v215, rfl, ho0, hb⟩; refine ⟨_, rfl, ?_⟩; have n0_ := Aside0.mk (Kd.V_below (by (with_reducible repeat (first | apply Kd.V_alloc | apply Kd.V_drewN | apply Kd.V_drew)); exact HO212.out) hb); have n1_ := Aside0.mk (Kd.V_lower (Kd.V_mono (ok' := fun k_ => k_ ≠ gb207 ∧ k_ ≠ gb208 ∧ k_ ≠ gb209) ho0 (fun k_ hk_ => ⟨Or.elim hk_ (fun hs_ => hs_.1) (fun hn_ => (Kd.freshB (bT BK207.out) k_ hn_)), Or.elim hk_ (fun hs_ => hs_.2.1) (fun hn_ => (Kd.freshB (bT BK208.out) k_ hn_)), Or.elim hk_ (fun hs_ => hs_.2.2) (fun hn_ => (Kd.freshB (bT BK209.out) k_ hn_))⟩)) (below_size (bW HB.out))); have n2_ := Aside0.mk (blk_below (bT BK207.out) hb); have n3_ := Aside0.mk (blk_below (bT BK208.out) hb); have n4_ := Aside0.mk (blk_below (bT BK209.out) hb); have n5_ := Aside0.mk (below_step (bW HB.out) hb); clear HO212 BK207 BK208 BK209 HB; have HO212 := n0_; have HO216 := n1_; have BK207 := n2_; have BK208 := n3_; have BK209 := n4_; have HB := n5_; clear n0_ n1_ n2_ n3_ n4_ n5_; (try clear hb); (try clear hb2); (try clear hk); (try clear hi); (try clear ho0); have hcz41_0 : w40.cell? ⟨gb209, 0, none⟩ = some (.string (⟨#[99]⟩ : ByteArray)) := (blk_cell BK209.out 0).trans rfl; have hcz41_1 : w40.cell? ⟨gb209, 1, none⟩ = some (.int .u64 2) := (blk_cell BK209.out 1).trans rfl; have hcz41_2 : w40.cell? ⟨gb209, 2, none⟩ = some (.int .u64 1) := (blk_cell BK209.out 2).trans rfl; have hfz41_0 := blk_frozen BK209.out 0; have hfz41_1 := blk_frozen BK209.out 1; have hfz41_2 := blk_frozen BK209.out 2; obtain ⟨Ao42, co42, eo42⟩ := Kd.V_slice HO216.out; subst eo42) | ((with_reducible refine gate_callee (f := 10) rfl ?_); refine goesL_ (some 31) rfl rfl Try.func10 (by kernel_rfl) rfl #[.slice Ao42 t214.length co42, .agg #[.string (⟨#[99]⟩ : ByteArray), .int .u64 2, .int .u64 1]] rfl (by (try simp only [List.map_toArray, List.map_cons, List.map_nil]); first | done | rfl | (simp only [List.length_drop, List.length_take]; rfl)) ?_; (with_reducible refine (heap_Push.calls k (fun k_ => (k_ ≠ gb207 ∧ (k_ ≠ gb208 ∧ k_ ≠ gb209))) _ _ t214 (⟨#[99]⟩ : ByteArray) 2 1 t218 t221 _ ?side1 A3.out).mono ?_); (case side1 => exact HO216.out); rintro e w43 ⟨v219, rfl, ho0, hb⟩; refine ⟨_, rfl, ?_⟩; have n0_ := Aside0.mk (Kd.V_below (by (with_reducible repeat (first | apply Kd.V_alloc | apply Kd.V_drewN | apply Kd.V_drew)); exact HO212.out) hb); have n1_ := Aside0.mk (Kd.V_below (by (with_reducible repeat (first | apply Kd.V_alloc | apply Kd.V_drewN | apply Kd.V_drew)); exact HO216.out) hb); have n2_ := Aside0.mk (Kd.V_lower (Kd.V_mono (ok' := fun k_ => k_ ≠ gb207 ∧ k_ ≠ gb208 ∧ k_ ≠ gb209) ho0 (fun k_ hk_ => ⟨Or.elim hk_ (fun hs_ => hs_.1) (fun hn_ => (Kd.freshB (bT BK207.out) k_ hn_)), Or.elim hk_ (fun hs_ => hs_.2.1) (fun hn_ => (Kd.freshB (bT BK208.out) k_ hn_)), Or.elim hk_ (fun hs_ => hs_.2.2) (fun hn_ => (Kd.freshB (bT BK209.out) k_ hn_))⟩)) (below_size (bW HB.out))); have n3_ := Aside0.mk (blk_below (bT BK207.out) hb); have n4_ := Aside0.mk (blk_below (bT BK208.out) hb); have n5_ := Aside0.mk (blk_below (bT BK209.out) hb); have n6_ := Aside0.mk (below_step (bW HB.out) hb); clear HO212 HO216 BK207 BK208 BK209 HB; have HO212 := n0_; have HO216 := n1_; have HO220 := n2_; have BK207 := n3_; have BK208 := n4_; have BK209 := n5_; have HB := n6_; clear n0_ n1_ n2_ n3_ n4_ n5_ n6_; (try clear hb); (try clear hb2); (try clear hk); (try clear hi); (try clear ho0); obtain ⟨Ao44, co44, eo44⟩ := Kd.V_slice HO220.out; subst eo44) | ((with_reducible refine gate_callee (f := 11) rfl ?_); refine goesL_ (some 36) rfl rfl Try.func11 (by kernel_rfl) rfl #[.slice Ao44 t218.length co44] rfl (by (try simp only [List.map_toArray, List.map_cons, List.map_nil]); first | done | rfl | (simp only [List.length_drop, List.length_take]; rfl)) ?_; (with_reducible refine (heap_Pop.calls k (fun k_ => (k_ ≠ gb207 ∧ (k_ ≠ gb208 ∧ k_ ≠ gb209))) _ _ t218 t222 t223 t224 t225 t228 _ ?side1 A4.out).mono ?_); (case side1 => exact HO220.out); rintro e w45 ⟨v226, rfl, ho0, hb⟩; refine ⟨_, rfl, ?_⟩; have n0_ := Aside0.mk (Kd.V_below (by (with_reducible repeat (first | apply Kd.V_alloc | apply Kd.V_drewN | apply Kd.V_drew)); exact HO212.out) hb); have n1_ := Aside0.mk (Kd.V_below (by (with_reducible repeat (first | apply Kd.V_alloc | apply Kd.V_drewN | apply Kd.V_drew)); exact HO216.out) hb); have n2_ := Aside0.mk (Kd.V_below (by (with_reducible repeat (first | apply Kd.V_alloc | apply Kd.V_drewN | apply Kd.V_drew)); exact HO220.out) hb); have n3_ := Aside0.mk (Kd.V_lower (Kd.V_mono (ok' := fun k_ => k_ ≠ gb207 ∧ k_ ≠ gb208 ∧ k_ ≠ gb209) ho0 (fun k_ hk_ => ⟨Or.elim hk_ (fun hs_ => hs_.1) (fun hn_ => (Kd.freshB (bT BK207.out) k_ hn_)), Or.elim hk_ (fun hs_ => hs_.2.1) (fun hn_ => (Kd.freshB (bT BK208.out) k_ hn_)), Or.elim hk_ (fun hs_ => hs_.2.2) (fun hn_ => (Kd.freshB (bT BK209.out) k_ hn_))⟩)) (below_size (bW HB.out))); have n4_ := Aside0.mk (blk_below (bT BK207.out) hb); have n5_ := Aside0.mk (blk_below (bT BK208.out) hb); have n6_ := Aside0.mk (blk_below (bT BK209.out) hb); have n7_ := Aside0.mk (below_step (bW HB.out) hb); clear HO212 HO216 HO220 BK207 BK208 BK209 HB; have HO212 := n0_; have HO216 := n1_; have HO220 := n2_; have HO227 := n3_; have BK207 := n4_; have BK208 := n5_; have BK209 := n6_; have HB := n7_; clear n0_ n1_ n2_ n3_ n4_ n5_ n6_ n7_; (try clear hb); (try clear hb2); (try clear hk); (try clear hi); (try clear ho0)) | ((with_reducible refine gate_dst (N := 7) rfl ?_); (try (refine gate_guard (by rfl) ?_; dsimp only)); refine box_event ?hg (N := 7) ?hd (cs := #[.string (⟨#[]⟩ : ByteArray), .int .u64 0, .int .u64 0]) (t := 25) ?hr ?_; (case hd => rfl); (case hg => rfl); (case hr => first | (go_simp; done) | (go_simp; rfl)); intro gb229 hg w46 hbox hb; have n0_ := Aside0.mk (Kd.V_below (Kd.V_elderB (by (with_reducible repeat (first | apply Kd.V_alloc | apply Kd.V_drewN | apply Kd.V_drew)); exact HO212.out) gb229 (Nat.le_of_eq hg.symm)) hb); have n1_ := Aside0.mk (Kd.V_below (Kd.V_elderB (by (with_reducible repeat (first | apply Kd.V_alloc | apply Kd.V_drewN | apply Kd.V_drew)); exact HO216.out) gb229 (Nat.le_of_eq hg.symm)) hb); have n2_ := Aside0.mk (Kd.V_below (Kd.V_elderB (by (with_reducible repeat (first | apply Kd.V_alloc | apply Kd.V_drewN | apply Kd.V_drew)); exact HO220.out) gb229 (Nat.le_of_eq hg.symm)) hb); have n3_ := Aside0.mk (Kd.V_below (Kd.V_elderB (by (with_reducible repeat (first | apply Kd.V_alloc | apply Kd.V_drewN | apply Kd.V_drew)); exact HO227.out) gb229 (Nat.le_of_eq hg.symm)) hb); have n4_ := Aside0.mk (blk_below (bT BK207.out) hb); have n5_ := Aside0.mk (blk_below (bT BK208.out) hb); have n6_ := Aside0.mk (blk_below (bT BK209.out) hb); have n7_ := Aside0.mk (below_step (bW HB.out) hb); have n8_ := Aside0.mk (hbox); have n9_ := Aside0.mk ((by rw [hg]; exact (below_size (bW HB.out)) : w.heap.size ≤ gb229)); have n10_ := Aside0.mk ((by rw [hg]; exact (below_size (bW HB.out)) : w.heap.size ≤ gb229)); have n11_ := Aside0.mk ((by rw [hg]; exact Nat.ne_of_lt (blk_lt (bT BK207.out)) : gb207 ≠ gb229)); have n12_ := Aside0.mk ((by rw [hg]; exact Nat.ne_of_gt (blk_lt (bT BK207.out)) : gb229 ≠ gb207)); have n13_ := Aside0.mk ((by rw [hg]; exact Nat.ne_of_lt (blk_lt (bT BK208.out)) : gb208 ≠ gb229)); have n14_ := Aside0.mk ((by rw [hg]; exact Nat.ne_of_gt (blk_lt (bT BK208.out)) : gb229 ≠ gb208)); have n15_ := Aside0.mk ((by rw [hg]; exact Nat.ne_of_lt (blk_lt (bT BK209.out)) : gb209 ≠ gb229)); have n16_ := Aside0.mk ((by rw [hg]; exact Nat.ne_of_gt (blk_lt (bT BK209.out)) : gb229 ≠ gb209)); clear HO212 HO216 HO220 HO227 BK207 BK208 BK209 HB; have HO212 := n0_; have HO216 := n1_; have HO220 := n2_; have HO227 := n3_; have BK207 := n4_; have BK208 := n5_; have BK209 := n6_; have HB := n7_; have BK229 := n8_; have GW229 := n9_; have GE229 := n10_; have NB207_229 := n11_; have NB229_207 := n12_; have NB208_229 := n13_; have NB229_208 := n14_; have NB209_229 := n15_; have NB229_209 := n16_; clear n0_ n1_ n2_ n3_ n4_ n5_ n6_ n7_ n8_ n9_ n10_ n11_ n12_ n13_ n14_ n15_ n16_ hb hbox hg; have hnb47 := NB229_207.out; have hnc47 := NB207_229.out; have hnb48 := NB229_208.out; have hnc48 := NB208_229.out; have hnb49 := NB229_209.out; have hnc49 := NB209_229.out; have hcz50_0 : w46.cell? ⟨gb229, 0, none⟩ = some (.string (⟨#[]⟩ : ByteArray)) := (blk_cell BK229.out 0).trans rfl; have hcz50_1 : w46.cell? ⟨gb229, 1, none⟩ = some (.int .u64 0) := (blk_cell BK229.out 1).trans rfl; have hcz50_2 : w46.cell? ⟨gb229, 2, none⟩ = some (.int .u64 0) := (blk_cell BK229.out 2).trans rfl; have hfz50_0 := blk_frozen BK229.out 0; have hfz50_1 := blk_frozen BK229.out 1; have hfz50_2 := blk_frozen BK229.out 2) | ((with_reducible refine gate_callee (f := 13) rfl ?_); refine goesL_ (some 42) rfl rfl Try.func13 (by kernel_rfl) rfl #[.slice Ao44 t218.length co44, .string (⟨#[99]⟩ : ByteArray)] rfl (by (try simp only [List.map_toArray, List.map_cons, List.map_nil]); first | done | rfl | (simp only [List.length_drop, List.length_take]; rfl)) ?_; (with_reducible refine (heap_Find.calls k _ _ t218 (⟨#[99]⟩ : ByteArray) t230 true _ ?side1 ?side2 A5.out).mono ?_); (case side1 => refine (Kd.V_reads' (e := 25) (base := w.heap.size) (ok := fun k_ => ((k_ ≠ gb207 ∧ (k_ ≠ gb208 ∧ k_ ≠ gb209)) ∧ k_ ≠ gb229)) (n := t218.length) (c := co44) ?_).2.2; exact (by (with_reducible repeat (first | apply Kd.V_alloc | apply Kd.V_drewN | apply Kd.V_drew)); exact (Kd.V_mono (Kd.V_far (p := ⟨gb229, 2, none⟩) (Kd.V_far (p := ⟨gb229, 1, none⟩) (Kd.V_far (p := ⟨gb229, 0, none⟩) (Kd.V_mono HO220.out (fun k_ hk => (⟨hk, hk.2⟩ : _ ∧ k_ ≠ gb229))) (fun _ hk => hk.2) (.string t222)) (fun _ hk => hk.2) (.int .u64 t223)) (fun _ hk => hk.2) (.int .u64 t224)) (fun _ h_ => h_.1)))); (case side2 => exact (Kd.V_reads' HO220.out).2.1); rintro e w51 ⟨rfl, hb⟩; refine ⟨_, rfl, ?_⟩; have n0_ := Aside0.mk (Kd.V_below (by (with_reducible repeat (first | apply Kd.V_alloc | apply Kd.V_drewN | apply Kd.V_drew)); exact (Kd.V_mono (Kd.V_far (p := ⟨gb229, 2, none⟩) (Kd.V_far (p := ⟨gb229, 1, none⟩) (Kd.V_far (p := ⟨gb229, 0, none⟩) (Kd.V_mono HO212.out (fun k_ hk => (⟨hk, hk.2⟩ : _ ∧ k_ ≠ gb229))) (fun _ hk => hk.2) (.string t222)) (fun _ hk => hk.2) (.int .u64 t223)) (fun _ hk => hk.2) (.int .u64 t224)) (fun _ h_ => h_.1))) hb); have n1_ := Aside0.mk (Kd.V_below (by (with_reducible repeat (first | apply Kd.V_alloc | apply Kd.V_drewN | apply Kd.V_drew)); exact (Kd.V_mono (Kd.V_far (p := ⟨gb229, 2, none⟩) (Kd.V_far (p := ⟨gb229, 1, none⟩) (Kd.V_far (p := ⟨gb229, 0, none⟩) (Kd.V_mono HO216.out (fun k_ hk => (⟨hk, hk.2⟩ : _ ∧ k_ ≠ gb229))) (fun _ hk => hk.2) (.string t222)) (fun _ hk => hk.2) (.int .u64 t223)) (fun _ hk => hk.2) (.int .u64 t224)) (fun _ h_ => h_.1))) hb); have n2_ := Aside0.mk (Kd.V_below (by (with_reducible repeat (first | apply Kd.V_alloc | apply Kd.V_drewN | apply Kd.V_drew)); exact (Kd.V_mono (Kd.V_far (p := ⟨gb229, 2, none⟩) (Kd.V_far (p := ⟨gb229, 1, none⟩) (Kd.V_far (p := ⟨gb229, 0, none⟩) (Kd.V_mono HO220.out (fun k_ hk => (⟨hk, hk.2⟩ : _ ∧ k_ ≠ gb229))) (fun _ hk => hk.2) (.string t222)) (fun _ hk => hk.2) (.int .u64 t223)) (fun _ hk => hk.2) (.int .u64 t224)) (fun _ h_ => h_.1))) hb); have n3_ := Aside0.mk (Kd.V_below (by (with_reducible repeat (first | apply Kd.V_alloc | apply Kd.V_drewN | apply Kd.V_drew)); exact (Kd.V_mono (Kd.V_far (p := ⟨gb229, 2, none⟩) (Kd.V_far (p := ⟨gb229, 1, none⟩) (Kd.V_far (p := ⟨gb229, 0, none⟩) (Kd.V_mono HO227.out (fun k_ hk => (⟨hk, hk.2⟩ : _ ∧ k_ ≠ gb229))) (fun _ hk => hk.2) (.string t222)) (fun _ hk => hk.2) (.int .u64 t223)) (fun _ hk => hk.2) (.int .u64 t224)) (fun _ h_ => h_.1))) hb); have n4_ := Aside0.mk (blk_below (g := gb207) (o := .cells #[.string (⟨#[97]⟩ : ByteArray), .int .u64 1, .int .u64 1] 25 (0, 0)) (by (with_reducible repeat (first | refine blk_drewN ?_ _ | refine blk_drew ?_ | refine blk_alloc ?_ _)); refine blk_far ?_ NB207_229.out _; (with_reducible repeat (first | refine blk_drewN ?_ _ | refine blk_drew ?_ | refine blk_alloc ?_ _)); refine blk_far ?_ NB207_229.out _; (with_reducible repeat (first | refine blk_drewN ?_ _ | refine blk_drew ?_ | refine blk_alloc ?_ _)); refine blk_far ?_ NB207_229.out _; (with_reducible repeat (first | refine blk_drewN ?_ _ | refine blk_drew ?_ | refine blk_alloc ?_ _)); exact BK207.out) hb); have n5_ := Aside0.mk (blk_below (g := gb208) (o := .cells #[.string (⟨#[98]⟩ : ByteArray), .int .u64 3, .int .u64 1] 25 (0, 0)) (by (with_reducible repeat (first | refine blk_drewN ?_ _ | refine blk_drew ?_ | refine blk_alloc ?_ _)); refine blk_far ?_ NB208_229.out _; (with_reducible repeat (first | refine blk_drewN ?_ _ | refine blk_drew ?_ | refine blk_alloc ?_ _)); refine blk_far ?_ NB208_229.out _; (with_reducible repeat (first | refine blk_drewN ?_ _ | refine blk_drew ?_ | refine blk_alloc ?_ _)); refine blk_far ?_ NB208_229.out _; (with_reducible repeat (first | refine blk_drewN ?_ _ | refine blk_drew ?_ | refine blk_alloc ?_ _)); exact BK208.out) hb); have n6_ := Aside0.mk (blk_below (g := gb209) (o := .cells #[.string (⟨#[99]⟩ : ByteArray), .int .u64 2, .int .u64 1] 25 (0, 0)) (by (with_reducible repeat (first | refine blk_drewN ?_ _ | refine blk_drew ?_ | refine blk_alloc ?_ _)); refine blk_far ?_ NB209_229.out _; (with_reducible repeat (first | refine blk_drewN ?_ _ | refine blk_drew ?_ | refine blk_alloc ?_ _)); refine blk_far ?_ NB209_229.out _; (with_reducible repeat (first | refine blk_drewN ?_ _ | refine blk_drew ?_ | refine blk_alloc ?_ _)); refine blk_far ?_ NB209_229.out _; (with_reducible repeat (first | refine blk_drewN ?_ _ | refine blk_drew ?_ | refine blk_alloc ?_ _)); exact BK209.out) hb); have n7_ := Aside0.mk (blk_below (g := gb229) (o := .cells #[.string t222, .int .u64 t223, .int .u64 t224] 25 (0, 0)) (by (with_reducible repeat (first | refine blk_drewN ?_ _ | refine blk_drew ?_ | refine blk_alloc ?_ _)); refine blk_put (cs := #[.string t222, .int .u64 t223, .int .u64 0]) ?_ 2 _ rfl; (with_reducible repeat (first | refine blk_drewN ?_ _ | refine blk_drew ?_ | refine blk_alloc ?_ _)); refine blk_put (cs := #[.string t222, .int .u64 0, .int .u64 0]) ?_ 1 _ rfl; (with_reducible repeat (first | refine blk_drewN ?_ _ | refine blk_drew ?_ | refine blk_alloc ?_ _)); refine blk_put (cs := #[.string (⟨#[]⟩ : ByteArray), .int .u64 0, .int .u64 0]) ?_ 0 _ rfl; (with_reducible repeat (first | refine blk_drewN ?_ _ | refine blk_drew ?_ | refine blk_alloc ?_ _)); exact BK229.out) hb); have n8_ := Aside0.mk (below_step (bW HB.out) hb); clear HO212 HO216 HO220 HO227 BK207 BK208 BK209 BK229 HB; have HO212 := n0_; have HO216 := n1_; have HO220 := n2_; have HO227 := n3_; have BK207 := n4_; have BK208 := n5_; have BK209 := n6_; have BK229 := n7_; have HB := n8_; clear n0_ n1_ n2_ n3_ n4_ n5_ n6_ n7_ n8_; (try clear hb); (try clear hb2); (try clear hk); (try clear hi); have hcz52_0 : w51.cell? ⟨gb207, 0, none⟩ = some (.string (⟨#[97]⟩ : ByteArray)) := (blk_cell BK207.out 0).trans rfl; have hcz52_1 : w51.cell? ⟨gb207, 1, none⟩ = some (.int .u64 1) := (blk_cell BK207.out 1).trans rfl; have hcz52_2 : w51.cell? ⟨gb207, 2, none⟩ = some (.int .u64 1) := (blk_cell BK207.out 2).trans rfl; have hfz52_0 := blk_frozen BK207.out 0; have hfz52_1 := blk_frozen BK207.out 1; have hfz52_2 := blk_frozen BK207.out 2) | ((with_reducible refine gate_callee (f := 12) rfl ?_); refine goesL_ (some 48) rfl rfl Try.func12 (by kernel_rfl) rfl #[.slice Ao44 t218.length co44, .int .i64 3, .agg #[.string (⟨#[97]⟩ : ByteArray), .int .u64 1, .int .u64 1]] rfl (by (try simp only [List.map_toArray, List.map_cons, List.map_nil]); first | done | rfl | (simp only [List.length_drop, List.length_take]; rfl)) ?_; (with_reducible refine (heap_Put.calls k (fun k_ => ((k_ ≠ gb207 ∧ (k_ ≠ gb208 ∧ k_ ≠ gb209)) ∧ k_ ≠ gb229)) _ _ t218 3 (⟨#[97]⟩ : ByteArray) 1 1 t232 t235 _ ?side1 A6.out).mono ?_); (case side1 => exact HO220.out); rintro e w53 ⟨v233, rfl, ho0, hb⟩; refine ⟨_, rfl, ?_⟩; have n0_ := Aside0.mk (Kd.V_below (by (with_reducible repeat (first | apply Kd.V_alloc | apply Kd.V_drewN | apply Kd.V_drew)); exact HO212.out) hb); have n1_ := Aside0.mk (Kd.V_below (by (with_reducible repeat (first | apply Kd.V_alloc | apply Kd.V_drewN | apply Kd.V_drew)); exact HO216.out) hb); have n2_ := Aside0.mk (Kd.V_below (by (with_reducible repeat (first | apply Kd.V_alloc | apply Kd.V_drewN | apply Kd.V_drew)); exact HO220.out) hb); have n3_ := Aside0.mk (Kd.V_below (by (with_reducible repeat (first | apply Kd.V_alloc | apply Kd.V_drewN | apply Kd.V_drew)); exact HO227.out) hb); have n4_ := Aside0.mk (Kd.V_lower (Kd.V_mono (ok' := fun k_ => k_ ≠ gb207 ∧ k_ ≠ gb208 ∧ k_ ≠ gb209 ∧ k_ ≠ gb229) ho0 (fun k_ hk_ => ⟨Or.elim hk_ (fun hs_ => hs_.1.1) (fun hn_ => (Kd.freshB (bT BK207.out) k_ hn_)), Or.elim hk_ (fun hs_ => hs_.1.2.1) (fun hn_ => (Kd.freshB (bT BK208.out) k_ hn_)), Or.elim hk_ (fun hs_ => hs_.1.2.2) (fun hn_ => (Kd.freshB (bT BK209.out) k_ hn_)), Or.elim hk_ (fun hs_ => hs_.2) (fun hn_ => (Kd.freshB (bT BK229.out) k_ hn_))⟩)) (below_size (bW HB.out))); have n5_ := Aside0.mk (blk_below (bT BK207.out) hb); have n6_ := Aside0.mk (blk_below (bT BK208.out) hb); have n7_ := Aside0.mk (blk_below (bT BK209.out) hb); have n8_ := Aside0.mk (blk_below (bT BK229.out) hb); have n9_ := Aside0.mk (below_step (bW HB.out) hb); clear HO212 HO216 HO220 HO227 BK207 BK208 BK209 BK229 HB; have HO212 := n0_; have HO216 := n1_; have HO220 := n2_; have HO227 := n3_; have HO234 := n4_; have BK207 := n5_; have BK208 := n6_; have BK209 := n7_; have BK229 := n8_; have HB := n9_; clear n0_ n1_ n2_ n3_ n4_ n5_ n6_ n7_ n8_ n9_; (try clear hb); (try clear hb2); (try clear hk); (try clear hi); (try clear ho0)))
                have n0_ := Aside0.mk (Kd.V_drew HO212.out)
                have n1_ := Aside0.mk (Kd.V_drew HO216.out)
                have n2_ := Aside0.mk (Kd.V_drew HO220.out)
                have n3_ := Aside0.mk (Kd.V_drew HO227.out)
                have n4_ := Aside0.mk (Kd.V_drew HO234.out)
                have n5_ := Aside0.mk (blk_drew BK207.out)
                have n6_ := Aside0.mk (blk_drew BK208.out)
                have n7_ := Aside0.mk (blk_drew BK209.out)
                have n8_ := Aside0.mk (blk_drew BK229.out)
                have n9_ := Aside0.mk (below_drew1 HB.out)
                clear HO212 HO216 HO220 HO227 HO234 BK207 BK208 BK209 BK229 HB
                have HO212 := n0_
                have HO216 := n1_
                have HO220 := n2_
                have HO227 := n3_
                have HO234 := n4_
                have BK207 := n5_
                have BK208 := n6_
                have BK209 := n7_
                have BK229 := n8_
                have HB := n9_
                clear n0_ n1_ n2_ n3_ n4_ n5_ n6_ n7_ n8_ n9_
                have p236 : 0 ≤ (0 : Int) := (by omega)
                have q236 : 0 < (t218.length : Int) := of_decide_eq_true (by first | (with_reducible assumption) | assumption)
                obtain ⟨ad236, e236, hx236_0, hx236_1, hx236_2⟩ := at_T25 (Kd.V_reads' HO220.out).2.2 0 p236 q236
                cases e236
                have qi236 : (0 < t218.length) = True := eq_true (by omega)
                (try rw [show ((0 : Int)).toNat = 0 from rfl] at hx236_0)
                (try rw [show 0 * 3 = 0 from rfl] at hx236_0)
                (try rw [Addr.add_zero'] at hx236_0)
                (try rw [show ((0 : Int)).toNat = 0 from rfl] at hx236_1)
                (try rw [show 0 * 3 = 0 from rfl] at hx236_1)
                (try rw [Addr.add_zero'] at hx236_1)
                (try rw [show ((0 : Int)).toNat = 0 from rfl] at hx236_2)
                (try rw [show 0 * 3 = 0 from rfl] at hx236_2)
                (try rw [Addr.add_zero'] at hx236_2)
                replace p236 := eq_true p236
                replace q236 := eq_true q236
                have p237 : 0 ≤ (1 : Int) := (by omega)
                have q237 : 1 < (t218.length : Int) := of_decide_eq_true (by first | (with_reducible assumption) | assumption)
                obtain ⟨ad237, e237, hx237_0, hx237_1, hx237_2⟩ := at_T25 (Kd.V_reads' HO220.out).2.2 1 p237 q237
                obtain rfl : ad236 = ad237 := (by injection e237)
                (try simp only [show (1 : Int).toNat = 1 from rfl, Nat.reduceMul, Nat.reduceEqDiff, Go.Addr.add, ↓reduceIte] at hx237_0)
                (try simp only [show (1 : Int).toNat = 1 from rfl, Nat.reduceMul, Nat.reduceEqDiff, Go.Addr.add, ↓reduceIte] at hx237_1)
                (try simp only [show (1 : Int).toNat = 1 from rfl, Nat.reduceMul, Nat.reduceEqDiff, Go.Addr.add, ↓reduceIte] at hx237_2)
                have qi237 : (1 < t218.length) = True := eq_true (by omega)
                (try rw [show ((1 : Int)).toNat = 1 from rfl] at hx237_0)
                (try rw [show 1 * 3 = 3 from rfl] at hx237_0)
                (try rw [show ((1 : Int)).toNat = 1 from rfl] at hx237_1)
                (try rw [show 1 * 3 = 3 from rfl] at hx237_1)
                (try rw [show ((1 : Int)).toNat = 1 from rfl] at hx237_2)
                (try rw [show 1 * 3 = 3 from rfl] at hx237_2)
                replace p237 := eq_true p237
                replace q237 := eq_true q237
                obtain ⟨Ao55, co55, eo55⟩ := Kd.V_slice HO227.out
                (first | subst eo55 | (injection eo55 with f1_ f2_ f3_; have f4_ := f1_.symm; have f5_ := f3_.symm; clear f1_ f2_ f3_; subst f4_; subst f5_))
                have p238 : 0 ≤ (0 : Int) := (by omega)
                have q238 : 0 < (t225.length : Int) := of_decide_eq_true (by first | (with_reducible assumption) | assumption)
                obtain ⟨ad238, e238, hx238_0, hx238_1, hx238_2⟩ := at_T25 (Kd.V_reads' HO227.out).2.2 0 p238 q238
                cases e238
                have qi238 : (0 < t225.length) = True := eq_true (by omega)
                (try rw [show ((0 : Int)).toNat = 0 from rfl] at hx238_0)
                (try rw [show 0 * 3 = 0 from rfl] at hx238_0)
                (try rw [Addr.add_zero'] at hx238_0)
                (try rw [show ((0 : Int)).toNat = 0 from rfl] at hx238_1)
                (try rw [show 0 * 3 = 0 from rfl] at hx238_1)
                (try rw [Addr.add_zero'] at hx238_1)
                (try rw [show ((0 : Int)).toNat = 0 from rfl] at hx238_2)
                (try rw [show 0 * 3 = 0 from rfl] at hx238_2)
                (try rw [Addr.add_zero'] at hx238_2)
                replace p238 := eq_true p238
                replace q238 := eq_true q238
                refine start_ (n := 64) (S := fun w' => w'.cell? ⟨gb208, 0, none⟩ = some (.string (⟨#[98]⟩ : ByteArray)) ∧ w'.cell? ⟨gb208, 1, none⟩ = some (.int .u64 3) ∧ w'.cell? ⟨gb208, 2, none⟩ = some (.int .u64 1) ∧ w'.cell? ⟨gb207, 0, none⟩ = some (.string (⟨#[97]⟩ : ByteArray)) ∧ w'.cell? ⟨gb207, 1, none⟩ = some (.int .u64 1) ∧ w'.cell? ⟨gb207, 2, none⟩ = some (.int .u64 1) ∧ w'.cell? ⟨gb229, 0, none⟩ = some (.string t222) ∧ w'.cell? ⟨gb229, 1, none⟩ = some (.int .u64 t223) ∧ w'.cell? ⟨gb229, 2, none⟩ = some (.int .u64 t224) ∧ w'.cell? ⟨gb209, 0, none⟩ = some (.string (⟨#[99]⟩ : ByteArray)) ∧ w'.cell? ⟨gb209, 1, none⟩ = some (.int .u64 2) ∧ w'.cell? ⟨gb209, 2, none⟩ = some (.int .u64 1) ∧ w'.cell? ad236 = some (.string ((rd_T25 t218 0).f0)) ∧ w'.cell? ⟨ad236.block, ad236.off + 1, none⟩ = some (.int .u64 ((rd_T25 t218 0).f1)) ∧ w'.cell? ⟨ad236.block, ad236.off + 2, none⟩ = some (.int .u64 ((rd_T25 t218 0).f2)) ∧ w'.cell? ⟨ad236.block, ad236.off + 3, none⟩ = some (.string ((rd_T25 t218 1).f0)) ∧ w'.cell? ⟨ad236.block, ad236.off + 3 + 1, none⟩ = some (.int .u64 ((rd_T25 t218 1).f1)) ∧ w'.cell? ⟨ad236.block, ad236.off + 3 + 2, none⟩ = some (.int .u64 ((rd_T25 t218 1).f2)) ∧ w'.cell? ad238 = some (.string ((rd_T25 t225 0).f0)) ∧ w'.cell? ⟨ad238.block, ad238.off + 1, none⟩ = some (.int .u64 ((rd_T25 t225 0).f1)) ∧ w'.cell? ⟨ad238.block, ad238.off + 2, none⟩ = some (.int .u64 ((rd_T25 t225 0).f2))) (ds := []) #[false, false, false, false, false, false, false, false, false, false, false, false, false, false, false, false, false, false, false, false, false, false, false, false, false, false, false, false, false, false, false, false, false, false, false, false, false, false, false, false, false, false, false, false, false, false, false, false, false, false, false, false, false, false, false, false, false, false, false, false, false, false, false, false] (by kernel_rfl) rfl rfl ⟨(blk_cell BK208.out 0).trans rfl, (blk_cell BK208.out 1).trans rfl, (blk_cell BK208.out 2).trans rfl, (blk_cell BK207.out 0).trans rfl, (blk_cell BK207.out 1).trans rfl, (blk_cell BK207.out 2).trans rfl, (blk_cell BK229.out 0).trans rfl, (blk_cell BK229.out 1).trans rfl, (blk_cell BK229.out 2).trans rfl, (blk_cell BK209.out 0).trans rfl, (blk_cell BK209.out 1).trans rfl, (blk_cell BK209.out 2).trans rfl, hx236_0, hx236_1, hx236_2, hx237_0, hx237_1, hx237_2, hx238_0, hx238_1, hx238_2⟩ (fun hHeld => ?_); refine with_tabW samphirelaw11_awake.tab8 samphirelaw11_awake.bits8 (fun HT_ HW_ => ?_)
                generalize w53.drew = w54 at HO212 HO216 HO220 HO227 HO234 BK207 BK208 BK209 BK229 HB hx236_0 hx236_1 hx236_2 hx237_0 hx237_1 hx237_2 hx238_0 hx238_1 hx238_2 hHeld ⊢
                refine pure_ (i := 0) (N := some 51) (v := ?_) (a' := ?_) #[true, false, false, false, false, false, false, false, false, false, false, false, false, false, false, false, false, false, false, false, false, false, false, false, false, false, false, false, false, false, false, false, false, false, false, false, false, false, false, false, false, false, false, false, false, false, false, false, false, false, false, false, false, false, false, false, false, false, false, false, false, false, false, false] rfl rfl (any_of HT_.out (by kernel_rfl)) (fun _ _ _ h => h) (Or.inl ⟨by rfl, ?_⟩) ?_ ?_
                rotate_left
                ·
                 intro w'
                 go_simp
                 with_reducible rfl
                rotate_left
                · exact bA
                refine pure_ (i := 1) (N := some 52) (v := ?_) (a' := ?_) #[true, true, false, false, false, false, false, false, false, false, false, false, false, false, false, false, false, false, false, false, false, false, false, false, false, false, false, false, false, false, false, false, false, false, false, false, false, false, false, false, false, false, false, false, false, false, false, false, false, false, false, false, false, false, false, false, false, false, false, false, false, false, false, false] rfl rfl (any_of HT_.out (by kernel_rfl)) (fun _ _ _ h => h) (Or.inl ⟨by rfl, ?_⟩) ?_ ?_
                rotate_left
                ·
                 intro w'
                 go_simp
                 with_reducible rfl
                rotate_left
                · exact bA
                refine pure_ (i := 2) (N := some 53) (v := ?_) (a' := ?_) #[true, true, true, false, false, false, false, false, false, false, false, false, false, false, false, false, false, false, false, false, false, false, false, false, false, false, false, false, false, false, false, false, false, false, false, false, false, false, false, false, false, false, false, false, false, false, false, false, false, false, false, false, false, false, false, false, false, false, false, false, false, false, false, false] rfl rfl (any_of HT_.out (by kernel_rfl)) (fun _ _ _ h => h) (Or.inl ⟨by rfl, ?_⟩) ?_ ?_
                rotate_left
                ·
                 intro w'
                 go_simp
                 with_reducible rfl
                rotate_left
                · exact bA
                refine pure_ (i := 3) (N := some 54) (v := ?_) (a' := ?_) #[true, true, true, true, false, false, false, false, false, false, false, false, false, false, false, false, false, false, false, false, false, false, false, false, false, false, false, false, false, false, false, false, false, false, false, false, false, false, false, false, false, false, false, false, false, false, false, false, false, false, false, false, false, false, false, false, false, false, false, false, false, false, false, false] rfl rfl (any_of HT_.out (by kernel_rfl)) (fun _ _ _ h => h) (Or.inl ⟨by rfl, ?_⟩) ?_ ?_
                rotate_left
                ·
                 intro w'
                 go_simp
                 with_reducible rfl
                rotate_left
                · exact bA
                refine pure_ (i := 4) (N := some 55) (v := ?_) (a' := ?_) #[true, true, true, true, true, false, false, false, false, false, false, false, false, false, false, false, false, false, false, false, false, false, false, false, false, false, false, false, false, false, false, false, false, false, false, false, false, false, false, false, false, false, false, false, false, false, false, false, false, false, false, false, false, false, false, false, false, false, false, false, false, false, false, false] rfl rfl (any_of HT_.out (by kernel_rfl)) (fun _ _ _ h => h) (Or.inl ⟨by rfl, ?_⟩) ?_ ?_
                rotate_left
                ·
                 intro w'
                 go_simp
                 with_reducible rfl
                rotate_left
                · exact bA
                refine pure_ (i := 5) (N := some 56) (v := ?_) (a' := ?_) #[true, true, true, true, true, true, false, false, false, false, false, false, false, false, false, false, false, false, false, false, false, false, false, false, false, false, false, false, false, false, false, false, false, false, false, false, false, false, false, false, false, false, false, false, false, false, false, false, false, false, false, false, false, false, false, false, false, false, false, false, false, false, false, false] rfl rfl (any_of HT_.out (by kernel_rfl)) (fun _ _ _ h => h) (Or.inl ⟨by rfl, ?_⟩) ?_ ?_
                rotate_left
                ·
                 intro w'
                 go_simp
                 with_reducible rfl
                rotate_left
                · exact bA
                refine pure_ (i := 6) (N := some 57) (v := ?_) (a' := ?_) #[true, true, true, true, true, true, true, false, false, false, false, false, false, false, false, false, false, false, false, false, false, false, false, false, false, false, false, false, false, false, false, false, false, false, false, false, false, false, false, false, false, false, false, false, false, false, false, false, false, false, false, false, false, false, false, false, false, false, false, false, false, false, false, false] rfl rfl (any_of HT_.out (by kernel_rfl)) (fun _ _ _ h => h) (Or.inl ⟨by rfl, ?_⟩) ?_ ?_
                rotate_left
                ·
                 intro w'
                 go_simp
                 with_reducible rfl
                rotate_left
                · exact bA
                refine pure_ (i := 7) (N := some 58) (v := ?_) (a' := ?_) #[true, true, true, true, true, true, true, true, false, false, false, false, false, false, false, false, false, false, false, false, false, false, false, false, false, false, false, false, false, false, false, false, false, false, false, false, false, false, false, false, false, false, false, false, false, false, false, false, false, false, false, false, false, false, false, false, false, false, false, false, false, false, false, false] rfl rfl (any_of HT_.out (by kernel_rfl)) (fun _ _ _ h => h) (Or.inl ⟨by rfl, ?_⟩) ?_ ?_
                rotate_left
                ·
                 intro w'
                 go_simp
                 with_reducible rfl
                rotate_left
                · exact bA
                refine pure_ (i := 8) (N := some 59) (v := ?_) (a' := ?_) #[true, true, true, true, true, true, true, true, true, false, false, false, false, false, false, false, false, false, false, false, false, false, false, false, false, false, false, false, false, false, false, false, false, false, false, false, false, false, false, false, false, false, false, false, false, false, false, false, false, false, false, false, false, false, false, false, false, false, false, false, false, false, false, false] rfl rfl (any_of HT_.out (by kernel_rfl)) (fun _ _ _ h => h) (Or.inl ⟨by rfl, ?_⟩) ?_ ?_
                rotate_left
                ·
                 intro w'
                 go_simp
                 with_reducible rfl
                rotate_left
                · exact bA
                refine pure_ (i := 9) (N := some 60) (v := ?_) (a' := ?_) #[true, true, true, true, true, true, true, true, true, true, false, false, false, false, false, false, false, false, false, false, false, false, false, false, false, false, false, false, false, false, false, false, false, false, false, false, false, false, false, false, false, false, false, false, false, false, false, false, false, false, false, false, false, false, false, false, false, false, false, false, false, false, false, false] rfl rfl (any_of HT_.out (by kernel_rfl)) (fun _ _ _ h => h) (Or.inl ⟨by rfl, ?_⟩) ?_ ?_
                rotate_left
                ·
                 intro w'
                 go_simp
                 with_reducible rfl
                rotate_left
                · exact bA
                refine take_ (i := 10) (N := some 61) (v := ?_) (a' := ?_) #[true, true, true, true, true, true, true, true, true, true, true, false, false, false, false, false, false, false, false, false, false, false, false, false, false, false, false, false, false, false, false, false, false, false, false, false, false, false, false, false, false, false, false, false, false, false, false, false, false, false, false, false, false, false, false, false, false, false, false, false, false, false, false, false] rfl rfl (take_ofW HT_.out HW_.out (by kernel_rfl)) (fun _ _ _ h => h) (Or.inl ⟨by rfl, ?_⟩) hHeld ?_ ?_
                rotate_left
                ·
                 rintro w' ⟨s0, s1, s2, s3, s4, s5, s6, s7, s8, s9, s10, s11, s12, s13, s14, s15, s16, s17, s18, s19, s20⟩
                 go_simp
                 with_reducible rfl
                rotate_left
                · exact bA
                refine take_ (i := 11) (N := some 62) (v := ?_) (a' := ?_) #[true, true, true, true, true, true, true, true, true, true, true, true, false, false, false, false, false, false, false, false, false, false, false, false, false, false, false, false, false, false, false, false, false, false, false, false, false, false, false, false, false, false, false, false, false, false, false, false, false, false, false, false, false, false, false, false, false, false, false, false, false, false, false, false] rfl rfl (take_ofW HT_.out HW_.out (by kernel_rfl)) (fun _ _ _ h => h) (Or.inl ⟨by rfl, ?_⟩) hHeld ?_ ?_
                rotate_left
                ·
                 rintro w' ⟨s0, s1, s2, s3, s4, s5, s6, s7, s8, s9, s10, s11, s12, s13, s14, s15, s16, s17, s18, s19, s20⟩
                 go_simp
                 with_reducible rfl
                rotate_left
                · exact bA
                refine pure_ (i := 12) (N := some 63) (v := ?_) (a' := ?_) #[true, true, true, true, true, true, true, true, true, true, true, true, true, false, false, false, false, false, false, false, false, false, false, false, false, false, false, false, false, false, false, false, false, false, false, false, false, false, false, false, false, false, false, false, false, false, false, false, false, false, false, false, false, false, false, false, false, false, false, false, false, false, false, false] rfl rfl (any_of HT_.out (by kernel_rfl)) (fun _ _ _ h => h) (Or.inl ⟨by rfl, ?_⟩) ?_ ?_
                rotate_left
                ·
                 intro w'
                 go_simp
                 with_reducible rfl
                rotate_left
                · exact bA
                refine pure_ (i := 13) (N := some 64) (v := ?_) (a' := ?_) #[true, true, true, true, true, true, true, true, true, true, true, true, true, true, false, false, false, false, false, false, false, false, false, false, false, false, false, false, false, false, false, false, false, false, false, false, false, false, false, false, false, false, false, false, false, false, false, false, false, false, false, false, false, false, false, false, false, false, false, false, false, false, false, false] rfl rfl (any_of HT_.out (by kernel_rfl)) (fun _ _ _ h => h) (Or.inl ⟨by rfl, ?_⟩) ?_ ?_
                rotate_left
                ·
                 intro w'
                 go_simp
                 with_reducible rfl
                rotate_left
                · exact bA
                refine pure_ (i := 14) (N := some 65) (v := ?_) (a' := ?_) #[true, true, true, true, true, true, true, true, true, true, true, true, true, true, true, false, false, false, false, false, false, false, false, false, false, false, false, false, false, false, false, false, false, false, false, false, false, false, false, false, false, false, false, false, false, false, false, false, false, false, false, false, false, false, false, false, false, false, false, false, false, false, false, false] rfl rfl (any_of HT_.out (by kernel_rfl)) (fun _ _ _ h => h) (Or.inl ⟨by rfl, ?_⟩) ?_ ?_
                rotate_left
                ·
                 intro w'
                 go_simp
                 with_reducible rfl
                rotate_left
                · exact bA
                refine pure_ (i := 15) (N := some 66) (v := ?_) (a' := ?_) #[true, true, true, true, true, true, true, true, true, true, true, true, true, true, true, true, false, false, false, false, false, false, false, false, false, false, false, false, false, false, false, false, false, false, false, false, false, false, false, false, false, false, false, false, false, false, false, false, false, false, false, false, false, false, false, false, false, false, false, false, false, false, false, false] rfl rfl (any_of HT_.out (by kernel_rfl)) (fun _ _ _ h => h) (Or.inl ⟨by rfl, ?_⟩) ?_ ?_
                rotate_left
                ·
                 intro w'
                 go_simp
                 with_reducible rfl
                rotate_left
                · exact bA
                refine pure_ (i := 16) (N := some 67) (v := ?_) (a' := ?_) #[true, true, true, true, true, true, true, true, true, true, true, true, true, true, true, true, true, false, false, false, false, false, false, false, false, false, false, false, false, false, false, false, false, false, false, false, false, false, false, false, false, false, false, false, false, false, false, false, false, false, false, false, false, false, false, false, false, false, false, false, false, false, false, false] rfl rfl (any_of HT_.out (by kernel_rfl)) (fun _ _ _ h => h) (Or.inl ⟨by rfl, ?_⟩) ?_ ?_
                rotate_left
                ·
                 intro w'
                 go_simp
                 with_reducible rfl
                rotate_left
                · exact bA
                refine take_ (i := 17) (N := some 68) (v := ?_) (a' := ?_) #[true, true, true, true, true, true, true, true, true, true, true, true, true, true, true, true, true, true, false, false, false, false, false, false, false, false, false, false, false, false, false, false, false, false, false, false, false, false, false, false, false, false, false, false, false, false, false, false, false, false, false, false, false, false, false, false, false, false, false, false, false, false, false, false] rfl rfl (take_ofW HT_.out HW_.out (by kernel_rfl)) (fun _ _ _ h => h) (Or.inl ⟨by rfl, ?_⟩) hHeld ?_ ?_
                rotate_left
                ·
                 rintro w' ⟨s0, s1, s2, s3, s4, s5, s6, s7, s8, s9, s10, s11, s12, s13, s14, s15, s16, s17, s18, s19, s20⟩
                 go_simp
                 with_reducible rfl
                rotate_left
                · exact bA
                refine take_ (i := 18) (N := some 69) (v := ?_) (a' := ?_) #[true, true, true, true, true, true, true, true, true, true, true, true, true, true, true, true, true, true, true, false, false, false, false, false, false, false, false, false, false, false, false, false, false, false, false, false, false, false, false, false, false, false, false, false, false, false, false, false, false, false, false, false, false, false, false, false, false, false, false, false, false, false, false, false] rfl rfl (take_ofW HT_.out HW_.out (by kernel_rfl)) (fun _ _ _ h => h) (Or.inl ⟨by rfl, ?_⟩) hHeld ?_ ?_
                rotate_left
                ·
                 rintro w' ⟨s0, s1, s2, s3, s4, s5, s6, s7, s8, s9, s10, s11, s12, s13, s14, s15, s16, s17, s18, s19, s20⟩
                 go_simp
                 with_reducible rfl
                rotate_left
                · exact bA
                refine pure_ (i := 19) (N := some 70) (v := ?_) (a' := ?_) #[true, true, true, true, true, true, true, true, true, true, true, true, true, true, true, true, true, true, true, true, false, false, false, false, false, false, false, false, false, false, false, false, false, false, false, false, false, false, false, false, false, false, false, false, false, false, false, false, false, false, false, false, false, false, false, false, false, false, false, false, false, false, false, false] rfl rfl (any_of HT_.out (by kernel_rfl)) (fun _ _ _ h => h) (Or.inl ⟨by rfl, ?_⟩) ?_ ?_
                rotate_left
                ·
                 intro w'
                 go_simp
                 with_reducible rfl
                rotate_left
                · exact bA
                refine pure_ (i := 20) (N := some 71) (v := ?_) (a' := ?_) #[true, true, true, true, true, true, true, true, true, true, true, true, true, true, true, true, true, true, true, true, true, false, false, false, false, false, false, false, false, false, false, false, false, false, false, false, false, false, false, false, false, false, false, false, false, false, false, false, false, false, false, false, false, false, false, false, false, false, false, false, false, false, false, false] rfl rfl (any_of HT_.out (by kernel_rfl)) (fun _ _ _ h => h) (Or.inl ⟨by rfl, ?_⟩) ?_ ?_
                rotate_left
                ·
                 intro w'
                 go_simp
                 with_reducible rfl
                rotate_left
                · exact bA
                refine pure_ (i := 21) (N := some 72) (v := ?_) (a' := ?_) #[true, true, true, true, true, true, true, true, true, true, true, true, true, true, true, true, true, true, true, true, true, true, false, false, false, false, false, false, false, false, false, false, false, false, false, false, false, false, false, false, false, false, false, false, false, false, false, false, false, false, false, false, false, false, false, false, false, false, false, false, false, false, false, false] rfl rfl (any_of HT_.out (by kernel_rfl)) (fun _ _ _ h => h) (Or.inl ⟨by rfl, ?_⟩) ?_ ?_
                rotate_left
                ·
                 intro w'
                 go_simp
                 with_reducible rfl
                rotate_left
                · exact bA
                refine take_ (i := 22) (N := some 73) (v := ?_) (a' := ?_) #[true, true, true, true, true, true, true, true, true, true, true, true, true, true, true, true, true, true, true, true, true, true, true, false, false, false, false, false, false, false, false, false, false, false, false, false, false, false, false, false, false, false, false, false, false, false, false, false, false, false, false, false, false, false, false, false, false, false, false, false, false, false, false, false] rfl rfl (take_ofW HT_.out HW_.out (by kernel_rfl)) (fun _ _ _ h => h) (Or.inl ⟨by rfl, ?_⟩) hHeld ?_ ?_
                rotate_left
                ·
                 rintro w' ⟨s0, s1, s2, s3, s4, s5, s6, s7, s8, s9, s10, s11, s12, s13, s14, s15, s16, s17, s18, s19, s20⟩
                 go_simp
                 with_reducible rfl
                rotate_left
                · exact bA
                refine take_ (i := 23) (N := some 74) (v := ?_) (a' := ?_) #[true, true, true, true, true, true, true, true, true, true, true, true, true, true, true, true, true, true, true, true, true, true, true, true, false, false, false, false, false, false, false, false, false, false, false, false, false, false, false, false, false, false, false, false, false, false, false, false, false, false, false, false, false, false, false, false, false, false, false, false, false, false, false, false] rfl rfl (take_ofW HT_.out HW_.out (by kernel_rfl)) (fun _ _ _ h => h) (Or.inl ⟨by rfl, ?_⟩) hHeld ?_ ?_
                rotate_left
                ·
                 rintro w' ⟨s0, s1, s2, s3, s4, s5, s6, s7, s8, s9, s10, s11, s12, s13, s14, s15, s16, s17, s18, s19, s20⟩
                 go_simp
                 with_reducible rfl
                rotate_left
                · exact bA
                refine pure_ (i := 24) (N := some 75) (v := ?_) (a' := ?_) #[true, true, true, true, true, true, true, true, true, true, true, true, true, true, true, true, true, true, true, true, true, true, true, true, true, false, false, false, false, false, false, false, false, false, false, false, false, false, false, false, false, false, false, false, false, false, false, false, false, false, false, false, false, false, false, false, false, false, false, false, false, false, false, false] rfl rfl (any_of HT_.out (by kernel_rfl)) (fun _ _ _ h => h) (Or.inl ⟨by rfl, ?_⟩) ?_ ?_
                rotate_left
                ·
                 intro w'
                 go_simp
                 with_reducible rfl
                rotate_left
                · exact bA
                refine pure_ (i := 25) (N := some 76) (v := ?_) (a' := ?_) #[true, true, true, true, true, true, true, true, true, true, true, true, true, true, true, true, true, true, true, true, true, true, true, true, true, true, false, false, false, false, false, false, false, false, false, false, false, false, false, false, false, false, false, false, false, false, false, false, false, false, false, false, false, false, false, false, false, false, false, false, false, false, false, false] rfl rfl (any_of HT_.out (by kernel_rfl)) (fun _ _ _ h => h) (Or.inl ⟨by rfl, ?_⟩) ?_ ?_
                rotate_left
                ·
                 intro w'
                 go_simp
                 with_reducible rfl
                rotate_left
                · exact bA
                refine pure_ (i := 26) (N := some 77) (v := ?_) (a' := ?_) #[true, true, true, true, true, true, true, true, true, true, true, true, true, true, true, true, true, true, true, true, true, true, true, true, true, true, true, false, false, false, false, false, false, false, false, false, false, false, false, false, false, false, false, false, false, false, false, false, false, false, false, false, false, false, false, false, false, false, false, false, false, false, false, false] rfl rfl (any_of HT_.out (by kernel_rfl)) (fun _ _ _ h => h) (Or.inl ⟨by rfl, ?_⟩) ?_ ?_
                rotate_left
                ·
                 intro w'
                 go_simp
                 with_reducible rfl
                rotate_left
                · exact bA
                refine pure_ (i := 27) (N := some 78) (v := ?_) (a' := ?_) #[true, true, true, true, true, true, true, true, true, true, true, true, true, true, true, true, true, true, true, true, true, true, true, true, true, true, true, true, false, false, false, false, false, false, false, false, false, false, false, false, false, false, false, false, false, false, false, false, false, false, false, false, false, false, false, false, false, false, false, false, false, false, false, false] rfl rfl (any_of HT_.out (by kernel_rfl)) (fun _ _ _ h => h) (Or.inl ⟨by rfl, ?_⟩) ?_ ?_
                rotate_left
                ·
                 intro w'
                 go_simp
                 with_reducible rfl
                rotate_left
                · exact bA
                refine pure_ (i := 28) (N := some 79) (v := ?_) (a' := ?_) #[true, true, true, true, true, true, true, true, true, true, true, true, true, true, true, true, true, true, true, true, true, true, true, true, true, true, true, true, true, false, false, false, false, false, false, false, false, false, false, false, false, false, false, false, false, false, false, false, false, false, false, false, false, false, false, false, false, false, false, false, false, false, false, false] rfl rfl (any_of HT_.out (by kernel_rfl)) (fun _ _ _ h => h) (Or.inl ⟨by rfl, ?_⟩) ?_ ?_
                rotate_left
                ·
                 intro w'
                 go_simp
                 with_reducible rfl
                rotate_left
                · exact bA
                refine pure_ (i := 29) (N := some 80) (v := ?_) (a' := ?_) #[true, true, true, true, true, true, true, true, true, true, true, true, true, true, true, true, true, true, true, true, true, true, true, true, true, true, true, true, true, true, false, false, false, false, false, false, false, false, false, false, false, false, false, false, false, false, false, false, false, false, false, false, false, false, false, false, false, false, false, false, false, false, false, false] rfl rfl (any_of HT_.out (by kernel_rfl)) (fun _ _ _ h => h) (Or.inl ⟨by rfl, ?_⟩) ?_ ?_
                rotate_left
                ·
                 intro w'
                 go_simp
                 with_reducible rfl
                rotate_left
                · exact bA
                refine pure_ (i := 30) (N := some 81) (v := ?_) (a' := ?_) #[true, true, true, true, true, true, true, true, true, true, true, true, true, true, true, true, true, true, true, true, true, true, true, true, true, true, true, true, true, true, true, false, false, false, false, false, false, false, false, false, false, false, false, false, false, false, false, false, false, false, false, false, false, false, false, false, false, false, false, false, false, false, false, false] rfl rfl (any_of HT_.out (by kernel_rfl)) (fun _ _ _ h => h) (Or.inl ⟨by rfl, ?_⟩) ?_ ?_
                rotate_left
                ·
                 intro w'
                 go_simp
                 with_reducible rfl
                rotate_left
                · exact bA
                refine pure_ (i := 31) (N := some 82) (v := ?_) (a' := ?_) #[true, true, true, true, true, true, true, true, true, true, true, true, true, true, true, true, true, true, true, true, true, true, true, true, true, true, true, true, true, true, true, true, false, false, false, false, false, false, false, false, false, false, false, false, false, false, false, false, false, false, false, false, false, false, false, false, false, false, false, false, false, false, false, false] rfl rfl (any_of HT_.out (by kernel_rfl)) (fun _ _ _ h => h) (Or.inl ⟨by rfl, ?_⟩) ?_ ?_
                rotate_left
                ·
                 intro w'
                 go_simp
                 with_reducible rfl
                rotate_left
                · exact bA
                refine pure_ (i := 32) (N := some 83) (v := ?_) (a' := ?_) #[true, true, true, true, true, true, true, true, true, true, true, true, true, true, true, true, true, true, true, true, true, true, true, true, true, true, true, true, true, true, true, true, true, false, false, false, false, false, false, false, false, false, false, false, false, false, false, false, false, false, false, false, false, false, false, false, false, false, false, false, false, false, false, false] rfl rfl (any_of HT_.out (by kernel_rfl)) (fun _ _ _ h => h) (Or.inl ⟨by rfl, ?_⟩) ?_ ?_
                rotate_left
                ·
                 intro w'
                 go_simp
                 with_reducible rfl
                rotate_left
                · exact bA
                refine pure_ (i := 33) (N := some 84) (v := ?_) (a' := ?_) #[true, true, true, true, true, true, true, true, true, true, true, true, true, true, true, true, true, true, true, true, true, true, true, true, true, true, true, true, true, true, true, true, true, true, false, false, false, false, false, false, false, false, false, false, false, false, false, false, false, false, false, false, false, false, false, false, false, false, false, false, false, false, false, false] rfl rfl (any_of HT_.out (by kernel_rfl)) (fun _ _ _ h => h) (Or.inl ⟨by rfl, ?_⟩) ?_ ?_
                rotate_left
                ·
                 intro w'
                 go_simp
                 with_reducible rfl
                rotate_left
                · exact bA
                refine take_ (i := 34) (N := some 85) (v := ?_) (a' := ?_) #[true, true, true, true, true, true, true, true, true, true, true, true, true, true, true, true, true, true, true, true, true, true, true, true, true, true, true, true, true, true, true, true, true, true, true, false, false, false, false, false, false, false, false, false, false, false, false, false, false, false, false, false, false, false, false, false, false, false, false, false, false, false, false, false] rfl rfl (take_ofW HT_.out HW_.out (by kernel_rfl)) (fun _ _ _ h => h) (Or.inl ⟨by rfl, ?_⟩) hHeld ?_ ?_
                rotate_left
                ·
                 rintro w' ⟨s0, s1, s2, s3, s4, s5, s6, s7, s8, s9, s10, s11, s12, s13, s14, s15, s16, s17, s18, s19, s20⟩
                 go_simp
                 with_reducible rfl
                rotate_left
                · exact bA
                refine take_ (i := 35) (N := some 86) (v := ?_) (a' := ?_) #[true, true, true, true, true, true, true, true, true, true, true, true, true, true, true, true, true, true, true, true, true, true, true, true, true, true, true, true, true, true, true, true, true, true, true, true, false, false, false, false, false, false, false, false, false, false, false, false, false, false, false, false, false, false, false, false, false, false, false, false, false, false, false, false] rfl rfl (take_ofW HT_.out HW_.out (by kernel_rfl)) (fun _ _ _ h => h) (Or.inl ⟨by rfl, ?_⟩) hHeld ?_ ?_
                rotate_left
                ·
                 rintro w' ⟨s0, s1, s2, s3, s4, s5, s6, s7, s8, s9, s10, s11, s12, s13, s14, s15, s16, s17, s18, s19, s20⟩
                 go_simp
                 with_reducible rfl
                rotate_left
                · exact bA
                refine pure_ (i := 36) (N := some 87) (v := ?_) (a' := ?_) #[true, true, true, true, true, true, true, true, true, true, true, true, true, true, true, true, true, true, true, true, true, true, true, true, true, true, true, true, true, true, true, true, true, true, true, true, true, false, false, false, false, false, false, false, false, false, false, false, false, false, false, false, false, false, false, false, false, false, false, false, false, false, false, false] rfl rfl (any_of HT_.out (by kernel_rfl)) (fun _ _ _ h => h) (Or.inl ⟨by rfl, ?_⟩) ?_ ?_
                rotate_left
                ·
                 intro w'
                 go_simp
                 with_reducible rfl
                rotate_left
                · exact bA
                refine pure_ (i := 37) (N := some 88) (v := ?_) (a' := ?_) #[true, true, true, true, true, true, true, true, true, true, true, true, true, true, true, true, true, true, true, true, true, true, true, true, true, true, true, true, true, true, true, true, true, true, true, true, true, true, false, false, false, false, false, false, false, false, false, false, false, false, false, false, false, false, false, false, false, false, false, false, false, false, false, false] rfl rfl (any_of HT_.out (by kernel_rfl)) (fun _ _ _ h => h) (Or.inl ⟨by rfl, ?_⟩) ?_ ?_
                rotate_left
                ·
                 intro w'
                 go_simp
                 with_reducible rfl
                rotate_left
                · exact bA
                refine pure_ (i := 38) (N := some 89) (v := ?_) (a' := ?_) #[true, true, true, true, true, true, true, true, true, true, true, true, true, true, true, true, true, true, true, true, true, true, true, true, true, true, true, true, true, true, true, true, true, true, true, true, true, true, true, false, false, false, false, false, false, false, false, false, false, false, false, false, false, false, false, false, false, false, false, false, false, false, false, false] rfl rfl (any_of HT_.out (by kernel_rfl)) (fun _ _ _ h => h) (Or.inl ⟨by rfl, ?_⟩) ?_ ?_
                rotate_left
                ·
                 intro w'
                 go_simp
                 with_reducible rfl
                rotate_left
                · exact bA
                refine pure_ (i := 39) (N := some 90) (v := ?_) (a' := ?_) #[true, true, true, true, true, true, true, true, true, true, true, true, true, true, true, true, true, true, true, true, true, true, true, true, true, true, true, true, true, true, true, true, true, true, true, true, true, true, true, true, false, false, false, false, false, false, false, false, false, false, false, false, false, false, false, false, false, false, false, false, false, false, false, false] rfl rfl (any_of HT_.out (by kernel_rfl)) (fun _ _ _ h => h) (Or.inl ⟨by rfl, ?_⟩) ?_ ?_
                rotate_left
                ·
                 intro w'
                 go_simp
                 with_reducible rfl
                rotate_left
                · exact bA
                refine pure_ (i := 40) (N := some 91) (v := ?_) (a' := ?_) #[true, true, true, true, true, true, true, true, true, true, true, true, true, true, true, true, true, true, true, true, true, true, true, true, true, true, true, true, true, true, true, true, true, true, true, true, true, true, true, true, true, false, false, false, false, false, false, false, false, false, false, false, false, false, false, false, false, false, false, false, false, false, false, false] rfl rfl (any_of HT_.out (by kernel_rfl)) (fun _ _ _ h => h) (Or.inl ⟨by rfl, ?_⟩) ?_ ?_
                rotate_left
                ·
                 intro w'
                 go_simp
                 with_reducible rfl
                rotate_left
                · exact bA
                refine pure_ (i := 41) (N := some 92) (v := ?_) (a' := ?_) #[true, true, true, true, true, true, true, true, true, true, true, true, true, true, true, true, true, true, true, true, true, true, true, true, true, true, true, true, true, true, true, true, true, true, true, true, true, true, true, true, true, true, false, false, false, false, false, false, false, false, false, false, false, false, false, false, false, false, false, false, false, false, false, false] rfl rfl (any_of HT_.out (by kernel_rfl)) (fun _ _ _ h => h) (Or.inl ⟨by rfl, ?_⟩) ?_ ?_
                rotate_left
                ·
                 intro w'
                 go_simp
                 with_reducible rfl
                rotate_left
                · exact bA
                refine pure_ (i := 42) (N := some 93) (v := ?_) (a' := ?_) #[true, true, true, true, true, true, true, true, true, true, true, true, true, true, true, true, true, true, true, true, true, true, true, true, true, true, true, true, true, true, true, true, true, true, true, true, true, true, true, true, true, true, true, false, false, false, false, false, false, false, false, false, false, false, false, false, false, false, false, false, false, false, false, false] rfl rfl (any_of HT_.out (by kernel_rfl)) (fun _ _ _ h => h) (Or.inl ⟨by rfl, ?_⟩) ?_ ?_
                rotate_left
                ·
                 intro w'
                 go_simp
                 with_reducible rfl
                rotate_left
                · exact bA
                refine pure_ (i := 43) (N := some 94) (v := ?_) (a' := ?_) #[true, true, true, true, true, true, true, true, true, true, true, true, true, true, true, true, true, true, true, true, true, true, true, true, true, true, true, true, true, true, true, true, true, true, true, true, true, true, true, true, true, true, true, true, false, false, false, false, false, false, false, false, false, false, false, false, false, false, false, false, false, false, false, false] rfl rfl (any_of HT_.out (by kernel_rfl)) (fun _ _ _ h => h) (Or.inl ⟨by rfl, ?_⟩) ?_ ?_
                rotate_left
                ·
                 intro w'
                 go_simp
                 with_reducible rfl
                rotate_left
                · exact bA
                refine pure_ (i := 44) (N := some 95) (v := ?_) (a' := ?_) #[true, true, true, true, true, true, true, true, true, true, true, true, true, true, true, true, true, true, true, true, true, true, true, true, true, true, true, true, true, true, true, true, true, true, true, true, true, true, true, true, true, true, true, true, true, false, false, false, false, false, false, false, false, false, false, false, false, false, false, false, false, false, false, false] rfl rfl (any_of HT_.out (by kernel_rfl)) (fun _ _ _ h => h) (Or.inl ⟨by rfl, ?_⟩) ?_ ?_
                rotate_left
                ·
                 intro w'
                 go_simp
                 with_reducible rfl
                rotate_left
                · exact bA
                refine pure_ (i := 45) (N := some 96) (v := ?_) (a' := ?_) #[true, true, true, true, true, true, true, true, true, true, true, true, true, true, true, true, true, true, true, true, true, true, true, true, true, true, true, true, true, true, true, true, true, true, true, true, true, true, true, true, true, true, true, true, true, true, false, false, false, false, false, false, false, false, false, false, false, false, false, false, false, false, false, false] rfl rfl (any_of HT_.out (by kernel_rfl)) (fun _ _ _ h => h) (Or.inl ⟨by rfl, ?_⟩) ?_ ?_
                rotate_left
                ·
                 intro w'
                 go_simp
                 with_reducible rfl
                rotate_left
                · exact bA
                refine pure_ (i := 46) (N := some 97) (v := ?_) (a' := ?_) #[true, true, true, true, true, true, true, true, true, true, true, true, true, true, true, true, true, true, true, true, true, true, true, true, true, true, true, true, true, true, true, true, true, true, true, true, true, true, true, true, true, true, true, true, true, true, true, false, false, false, false, false, false, false, false, false, false, false, false, false, false, false, false, false] rfl rfl (any_of HT_.out (by kernel_rfl)) (fun _ _ _ h => h) (Or.inl ⟨by rfl, ?_⟩) ?_ ?_
                rotate_left
                ·
                 intro w'
                 go_simp
                 with_reducible rfl
                rotate_left
                · exact bA
                refine pure_ (i := 47) (N := some 98) (v := ?_) (a' := ?_) #[true, true, true, true, true, true, true, true, true, true, true, true, true, true, true, true, true, true, true, true, true, true, true, true, true, true, true, true, true, true, true, true, true, true, true, true, true, true, true, true, true, true, true, true, true, true, true, true, false, false, false, false, false, false, false, false, false, false, false, false, false, false, false, false] rfl rfl (any_of HT_.out (by kernel_rfl)) (fun _ _ _ h => h) (Or.inl ⟨by rfl, ?_⟩) ?_ ?_
                rotate_left
                ·
                 intro w'
                 go_simp
                 with_reducible rfl
                rotate_left
                · exact bA
                refine pure_ (i := 48) (N := some 99) (v := ?_) (a' := ?_) #[true, true, true, true, true, true, true, true, true, true, true, true, true, true, true, true, true, true, true, true, true, true, true, true, true, true, true, true, true, true, true, true, true, true, true, true, true, true, true, true, true, true, true, true, true, true, true, true, true, false, false, false, false, false, false, false, false, false, false, false, false, false, false, false] rfl rfl (any_of HT_.out (by kernel_rfl)) (fun _ _ _ h => h) (Or.inl ⟨by rfl, ?_⟩) ?_ ?_
                rotate_left
                ·
                 intro w'
                 go_simp
                 with_reducible rfl
                rotate_left
                · exact bA
                refine pure_ (i := 49) (N := some 100) (v := ?_) (a' := ?_) #[true, true, true, true, true, true, true, true, true, true, true, true, true, true, true, true, true, true, true, true, true, true, true, true, true, true, true, true, true, true, true, true, true, true, true, true, true, true, true, true, true, true, true, true, true, true, true, true, true, true, false, false, false, false, false, false, false, false, false, false, false, false, false, false] rfl rfl (any_of HT_.out (by kernel_rfl)) (fun _ _ _ h => h) (Or.inl ⟨by rfl, ?_⟩) ?_ ?_
                rotate_left
                ·
                 intro w'
                 go_simp
                 with_reducible rfl
                rotate_left
                · exact bA
                refine pure_ (i := 50) (N := some 101) (v := ?_) (a' := ?_) #[true, true, true, true, true, true, true, true, true, true, true, true, true, true, true, true, true, true, true, true, true, true, true, true, true, true, true, true, true, true, true, true, true, true, true, true, true, true, true, true, true, true, true, true, true, true, true, true, true, true, true, false, false, false, false, false, false, false, false, false, false, false, false, false] rfl rfl (any_of HT_.out (by kernel_rfl)) (fun _ _ _ h => h) (Or.inl ⟨by rfl, ?_⟩) ?_ ?_
                rotate_left
                ·
                 intro w'
                 go_simp
                 with_reducible rfl
                rotate_left
                · exact bA
                refine pure_ (i := 51) (N := some 102) (v := ?_) (a' := ?_) #[true, true, true, true, true, true, true, true, true, true, true, true, true, true, true, true, true, true, true, true, true, true, true, true, true, true, true, true, true, true, true, true, true, true, true, true, true, true, true, true, true, true, true, true, true, true, true, true, true, true, true, true, false, false, false, false, false, false, false, false, false, false, false, false] rfl rfl (any_of HT_.out (by kernel_rfl)) (fun _ _ _ h => h) (Or.inl ⟨by rfl, ?_⟩) ?_ ?_
                rotate_left
                ·
                 intro w'
                 go_simp
                 with_reducible rfl
                rotate_left
                · exact bA
                refine pure_ (i := 52) (N := some 103) (v := ?_) (a' := ?_) #[true, true, true, true, true, true, true, true, true, true, true, true, true, true, true, true, true, true, true, true, true, true, true, true, true, true, true, true, true, true, true, true, true, true, true, true, true, true, true, true, true, true, true, true, true, true, true, true, true, true, true, true, true, false, false, false, false, false, false, false, false, false, false, false] rfl rfl (any_of HT_.out (by kernel_rfl)) (fun _ _ _ h => h) (Or.inl ⟨by rfl, ?_⟩) ?_ ?_
                rotate_left
                ·
                 intro w'
                 go_simp
                 with_reducible rfl
                rotate_left
                · exact bA
                refine pure_ (i := 53) (N := some 104) (v := ?_) (a' := ?_) #[true, true, true, true, true, true, true, true, true, true, true, true, true, true, true, true, true, true, true, true, true, true, true, true, true, true, true, true, true, true, true, true, true, true, true, true, true, true, true, true, true, true, true, true, true, true, true, true, true, true, true, true, true, true, false, false, false, false, false, false, false, false, false, false] rfl rfl (any_of HT_.out (by kernel_rfl)) (fun _ _ _ h => h) (Or.inl ⟨by rfl, ?_⟩) ?_ ?_
                rotate_left
                ·
                 intro w'
                 go_simp
                 with_reducible rfl
                rotate_left
                · exact bA
                refine pure_ (i := 54) (N := some 105) (v := ?_) (a' := ?_) #[true, true, true, true, true, true, true, true, true, true, true, true, true, true, true, true, true, true, true, true, true, true, true, true, true, true, true, true, true, true, true, true, true, true, true, true, true, true, true, true, true, true, true, true, true, true, true, true, true, true, true, true, true, true, true, false, false, false, false, false, false, false, false, false] rfl rfl (any_of HT_.out (by kernel_rfl)) (fun _ _ _ h => h) (Or.inl ⟨by rfl, ?_⟩) ?_ ?_
                rotate_left
                ·
                 intro w'
                 go_simp
                 with_reducible rfl
                rotate_left
                · exact bA
                refine one_ (i := 55) (N := some 106) #[true, true, true, true, true, true, true, true, true, true, true, true, true, true, true, true, true, true, true, true, true, true, true, true, true, true, true, true, true, true, true, true, true, true, true, true, true, true, true, true, true, true, true, true, true, true, true, true, true, true, true, true, true, true, true, true, false, false, false, false, false, false, false, false] rfl rfl (one_of HT_.out (by kernel_rfl)) (by decide) (fun K hK => ?_)
                refine goes_ Try.func15 (by kernel_rfl) rfl #[.slice (some ad236) t218.length co44] (by rfl) rfl rfl (by (try simp only [List.map_toArray, List.map_cons, List.map_nil]); first | done | rfl | (simp only [List.length_drop, List.length_take]; rfl)) ?_
                with_reducible refine (heap_Right.calls k _ _ t218 true _ ?side1 ?side2 A21.out).mono ?_
                (case side1 => repeat (first | exact (Kd.V_reads' HO220.out).2.2 | (with_reducible refine Kd.C_alloc ?_ _) | (with_reducible refine Kd.C_drewN ?_ _) | (with_reducible refine Kd.C_drew ?_)))
                (case side2 => exact (Kd.V_reads' HO220.out).2.1)
                rintro e w56 ⟨rfl, hb⟩
                have HS12_ := (hb.cell (World.block_lt_of_cell? _ _ (hHeld.2.2.2.2.2.2.2.2.2.2.2.2.1))).trans (hHeld.2.2.2.2.2.2.2.2.2.2.2.2.1)
                have HS13_ := (hb.cell (World.block_lt_of_cell? _ _ (hHeld.2.2.2.2.2.2.2.2.2.2.2.2.2.1))).trans (hHeld.2.2.2.2.2.2.2.2.2.2.2.2.2.1)
                have HS14_ := (hb.cell (World.block_lt_of_cell? _ _ (hHeld.2.2.2.2.2.2.2.2.2.2.2.2.2.2.1))).trans (hHeld.2.2.2.2.2.2.2.2.2.2.2.2.2.2.1)
                have HS15_ := (hb.cell (World.block_lt_of_cell? _ _ (hHeld.2.2.2.2.2.2.2.2.2.2.2.2.2.2.2.1))).trans (hHeld.2.2.2.2.2.2.2.2.2.2.2.2.2.2.2.1)
                have HS16_ := (hb.cell (World.block_lt_of_cell? _ _ (hHeld.2.2.2.2.2.2.2.2.2.2.2.2.2.2.2.2.1))).trans (hHeld.2.2.2.2.2.2.2.2.2.2.2.2.2.2.2.2.1)
                have HS17_ := (hb.cell (World.block_lt_of_cell? _ _ (hHeld.2.2.2.2.2.2.2.2.2.2.2.2.2.2.2.2.2.1))).trans (hHeld.2.2.2.2.2.2.2.2.2.2.2.2.2.2.2.2.2.1)
                have HS18_ := (hb.cell (World.block_lt_of_cell? _ _ (hHeld.2.2.2.2.2.2.2.2.2.2.2.2.2.2.2.2.2.2.1))).trans (hHeld.2.2.2.2.2.2.2.2.2.2.2.2.2.2.2.2.2.2.1)
                have HS19_ := (hb.cell (World.block_lt_of_cell? _ _ (hHeld.2.2.2.2.2.2.2.2.2.2.2.2.2.2.2.2.2.2.2.1))).trans (hHeld.2.2.2.2.2.2.2.2.2.2.2.2.2.2.2.2.2.2.2.1)
                have HS20_ := (hb.cell (World.block_lt_of_cell? _ _ (hHeld.2.2.2.2.2.2.2.2.2.2.2.2.2.2.2.2.2.2.2.2))).trans (hHeld.2.2.2.2.2.2.2.2.2.2.2.2.2.2.2.2.2.2.2.2)
                refine ⟨_, rfl, ?_⟩
                have n0_ := Aside0.mk (Kd.V_below (by (with_reducible repeat (first | apply Kd.V_alloc | apply Kd.V_drewN | apply Kd.V_drew)); exact HO212.out) hb)
                have n1_ := Aside0.mk (Kd.V_below (by (with_reducible repeat (first | apply Kd.V_alloc | apply Kd.V_drewN | apply Kd.V_drew)); exact HO216.out) hb)
                have n2_ := Aside0.mk (Kd.V_below (by (with_reducible repeat (first | apply Kd.V_alloc | apply Kd.V_drewN | apply Kd.V_drew)); exact HO220.out) hb)
                have n3_ := Aside0.mk (Kd.V_below (by (with_reducible repeat (first | apply Kd.V_alloc | apply Kd.V_drewN | apply Kd.V_drew)); exact HO227.out) hb)
                have n4_ := Aside0.mk (Kd.V_below (by (with_reducible repeat (first | apply Kd.V_alloc | apply Kd.V_drewN | apply Kd.V_drew)); exact HO234.out) hb)
                have n5_ := Aside0.mk (blk_below (bT BK207.out) hb)
                have n6_ := Aside0.mk (blk_below (bT BK208.out) hb)
                have n7_ := Aside0.mk (blk_below (bT BK209.out) hb)
                have n8_ := Aside0.mk (blk_below (bT BK229.out) hb)
                have n9_ := Aside0.mk (below_step (bW HB.out) hb)
                clear HO212 HO216 HO220 HO227 HO234 BK207 BK208 BK209 BK229 HB
                have HO212 := n0_
                have HO216 := n1_
                have HO220 := n2_
                have HO227 := n3_
                have HO234 := n4_
                have BK207 := n5_
                have BK208 := n6_
                have BK209 := n7_
                have BK229 := n8_
                have HB := n9_
                clear n0_ n1_ n2_ n3_ n4_ n5_ n6_ n7_ n8_ n9_
                (try clear hb)
                (try clear hb2)
                (try clear hk)
                (try clear hi)
                refine hK.out _ _ ⟨(blk_cell BK208.out 0).trans rfl, (blk_cell BK208.out 1).trans rfl, (blk_cell BK208.out 2).trans rfl, (blk_cell BK207.out 0).trans rfl, (blk_cell BK207.out 1).trans rfl, (blk_cell BK207.out 2).trans rfl, (blk_cell BK229.out 0).trans rfl, (blk_cell BK229.out 1).trans rfl, (blk_cell BK229.out 2).trans rfl, (blk_cell BK209.out 0).trans rfl, (blk_cell BK209.out 1).trans rfl, (blk_cell BK209.out 2).trans rfl, HS12_, HS13_, HS14_, HS15_, HS16_, HS17_, HS18_, HS19_, HS20_⟩ (fun hHeld => ?_)
                clear hK K
                refine norm_ (a' := ?_) ?_ ?_
                rotate_left
                ·
                 show Act.put _ (some 106) _ = _
                 simp only [Act.put, List.setIfInBounds_toArray, List.set_cons_zero, List.set_cons_succ, i64_w, i32_w]
                 rfl
                refine pure_ (i := 56) (N := some 107) (v := ?_) (a' := ?_) #[true, true, true, true, true, true, true, true, true, true, true, true, true, true, true, true, true, true, true, true, true, true, true, true, true, true, true, true, true, true, true, true, true, true, true, true, true, true, true, true, true, true, true, true, true, true, true, true, true, true, true, true, true, true, true, true, true, false, false, false, false, false, false, false] rfl rfl (any_of HT_.out (by kernel_rfl)) (fun _ _ _ h => h) (Or.inl ⟨by rfl, ?_⟩) ?_ ?_
                rotate_left
                ·
                 intro w'
                 go_simp
                 with_reducible rfl
                rotate_left
                · exact bA
                refine pure_ (i := 57) (N := some 108) (v := ?_) (a' := ?_) #[true, true, true, true, true, true, true, true, true, true, true, true, true, true, true, true, true, true, true, true, true, true, true, true, true, true, true, true, true, true, true, true, true, true, true, true, true, true, true, true, true, true, true, true, true, true, true, true, true, true, true, true, true, true, true, true, true, true, false, false, false, false, false, false] rfl rfl (any_of HT_.out (by kernel_rfl)) (fun _ _ _ h => h) (Or.inl ⟨by rfl, ?_⟩) ?_ ?_
                rotate_left
                ·
                 intro w'
                 go_simp
                 with_reducible rfl
                rotate_left
                · exact bA
                refine pure_ (i := 58) (N := some 109) (v := ?_) (a' := ?_) #[true, true, true, true, true, true, true, true, true, true, true, true, true, true, true, true, true, true, true, true, true, true, true, true, true, true, true, true, true, true, true, true, true, true, true, true, true, true, true, true, true, true, true, true, true, true, true, true, true, true, true, true, true, true, true, true, true, true, true, false, false, false, false, false] rfl rfl (any_of HT_.out (by kernel_rfl)) (fun _ _ _ h => h) (Or.inl ⟨by rfl, ?_⟩) ?_ ?_
                rotate_left
                ·
                 intro w'
                 go_simp
                 with_reducible rfl
                rotate_left
                · exact bA
                refine one_ (i := 59) (N := some 110) #[true, true, true, true, true, true, true, true, true, true, true, true, true, true, true, true, true, true, true, true, true, true, true, true, true, true, true, true, true, true, true, true, true, true, true, true, true, true, true, true, true, true, true, true, true, true, true, true, true, true, true, true, true, true, true, true, true, true, true, true, false, false, false, false] rfl rfl (one_of HT_.out (by kernel_rfl)) (by decide) (fun K hK => ?_)
                refine goes_ Try.func26 (by kernel_rfl) rfl #[.slice (some ad236) t218.length co44] (by rfl) rfl rfl (by (try simp only [List.map_toArray, List.map_cons, List.map_nil]); first | done | rfl | (simp only [List.length_drop, List.length_take]; rfl)) ?_
                with_reducible refine (heap_Down.calls k (fun k_ => ((k_ ≠ gb207 ∧ (k_ ≠ gb208 ∧ k_ ≠ gb209)) ∧ k_ ≠ gb229)) _ _ t218 t240 _ ?side1 A23.out).mono ?_
                (case side1 => exact HO220.out)
                rintro e w57 ⟨v241, rfl, ho0, hb⟩
                have HS12_ := (hb.cell (World.block_lt_of_cell? _ _ (hHeld.2.2.2.2.2.2.2.2.2.2.2.2.1))).trans (hHeld.2.2.2.2.2.2.2.2.2.2.2.2.1)
                have HS13_ := (hb.cell (World.block_lt_of_cell? _ _ (hHeld.2.2.2.2.2.2.2.2.2.2.2.2.2.1))).trans (hHeld.2.2.2.2.2.2.2.2.2.2.2.2.2.1)
                have HS14_ := (hb.cell (World.block_lt_of_cell? _ _ (hHeld.2.2.2.2.2.2.2.2.2.2.2.2.2.2.1))).trans (hHeld.2.2.2.2.2.2.2.2.2.2.2.2.2.2.1)
                have HS15_ := (hb.cell (World.block_lt_of_cell? _ _ (hHeld.2.2.2.2.2.2.2.2.2.2.2.2.2.2.2.1))).trans (hHeld.2.2.2.2.2.2.2.2.2.2.2.2.2.2.2.1)
                have HS16_ := (hb.cell (World.block_lt_of_cell? _ _ (hHeld.2.2.2.2.2.2.2.2.2.2.2.2.2.2.2.2.1))).trans (hHeld.2.2.2.2.2.2.2.2.2.2.2.2.2.2.2.2.1)
                have HS17_ := (hb.cell (World.block_lt_of_cell? _ _ (hHeld.2.2.2.2.2.2.2.2.2.2.2.2.2.2.2.2.2.1))).trans (hHeld.2.2.2.2.2.2.2.2.2.2.2.2.2.2.2.2.2.1)
                have HS18_ := (hb.cell (World.block_lt_of_cell? _ _ (hHeld.2.2.2.2.2.2.2.2.2.2.2.2.2.2.2.2.2.2.1))).trans (hHeld.2.2.2.2.2.2.2.2.2.2.2.2.2.2.2.2.2.2.1)
                have HS19_ := (hb.cell (World.block_lt_of_cell? _ _ (hHeld.2.2.2.2.2.2.2.2.2.2.2.2.2.2.2.2.2.2.2.1))).trans (hHeld.2.2.2.2.2.2.2.2.2.2.2.2.2.2.2.2.2.2.2.1)
                have HS20_ := (hb.cell (World.block_lt_of_cell? _ _ (hHeld.2.2.2.2.2.2.2.2.2.2.2.2.2.2.2.2.2.2.2.2))).trans (hHeld.2.2.2.2.2.2.2.2.2.2.2.2.2.2.2.2.2.2.2.2)
                refine ⟨_, rfl, ?_⟩
                have n0_ := Aside0.mk (Kd.V_elder' (by (with_reducible repeat (first | apply Kd.V_alloc | apply Kd.V_drewN | apply Kd.V_drew)); exact HO212.out) (Kd.R_base ho0) hb)
                have n1_ := Aside0.mk (Kd.V_elder' (by (with_reducible repeat (first | apply Kd.V_alloc | apply Kd.V_drewN | apply Kd.V_drew)); exact HO216.out) (Kd.R_base ho0) hb)
                have n2_ := Aside0.mk (Kd.V_elder' (by (with_reducible repeat (first | apply Kd.V_alloc | apply Kd.V_drewN | apply Kd.V_drew)); exact HO220.out) (Kd.R_base ho0) hb)
                have n3_ := Aside0.mk (Kd.V_elder' (by (with_reducible repeat (first | apply Kd.V_alloc | apply Kd.V_drewN | apply Kd.V_drew)); exact HO227.out) (Kd.R_base ho0) hb)
                have n4_ := Aside0.mk (Kd.V_elder' (by (with_reducible repeat (first | apply Kd.V_alloc | apply Kd.V_drewN | apply Kd.V_drew)); exact HO234.out) (Kd.R_base ho0) hb)
                have n5_ := Aside0.mk (Kd.R_lower (Kd.R_newB (Kd.R_newB (Kd.R_newB (Kd.R_newB (Kd.R_mono (ok' := fun k_ => True) ho0 (fun _ hk_ => trivial)) (bT BK207.out)) (bT BK208.out)) (bT BK209.out)) (bT BK229.out)) (below_size (bW HB.out)))
                have n6_ := Aside0.mk (blk_below (bT BK207.out) hb)
                have n7_ := Aside0.mk (blk_below (bT BK208.out) hb)
                have n8_ := Aside0.mk (blk_below (bT BK209.out) hb)
                have n9_ := Aside0.mk (blk_below (bT BK229.out) hb)
                have n10_ := Aside0.mk (below_step (bW HB.out) hb)
                clear HO212 HO216 HO220 HO227 HO234 BK207 BK208 BK209 BK229 HB
                have HO212 := n0_
                have HO216 := n1_
                have HO220 := n2_
                have HO227 := n3_
                have HO234 := n4_
                have HO242 := n5_
                have BK207 := n6_
                have BK208 := n7_
                have BK209 := n8_
                have BK229 := n9_
                have HB := n10_
                clear n0_ n1_ n2_ n3_ n4_ n5_ n6_ n7_ n8_ n9_ n10_
                (try clear hb)
                (try clear hb2)
                (try clear hk)
                (try clear hi)
                (try clear ho0)
                obtain ⟨Ao58, co58, eo58⟩ := Kd.R_slice HO242.out
                (first | subst eo58 | (injection eo58 with f1_ f2_ f3_; have f4_ := f1_.symm; have f5_ := f3_.symm; clear f1_ f2_ f3_; subst f4_; subst f5_))
                refine hK.out _ _ ⟨(blk_cell BK208.out 0).trans rfl, (blk_cell BK208.out 1).trans rfl, (blk_cell BK208.out 2).trans rfl, (blk_cell BK207.out 0).trans rfl, (blk_cell BK207.out 1).trans rfl, (blk_cell BK207.out 2).trans rfl, (blk_cell BK229.out 0).trans rfl, (blk_cell BK229.out 1).trans rfl, (blk_cell BK229.out 2).trans rfl, (blk_cell BK209.out 0).trans rfl, (blk_cell BK209.out 1).trans rfl, (blk_cell BK209.out 2).trans rfl, HS12_, HS13_, HS14_, HS15_, HS16_, HS17_, HS18_, HS19_, HS20_⟩ (fun hHeld => ?_)
                clear hK K
                refine norm_ (a' := ?_) ?_ ?_
                rotate_left
                ·
                 show Act.put _ (some 110) _ = _
                 simp only [Act.put, List.setIfInBounds_toArray, List.set_cons_zero, List.set_cons_succ, i64_w, i32_w]
                 rfl
                refine pure_ (i := 60) (N := some 111) (v := ?_) (a' := ?_) #[true, true, true, true, true, true, true, true, true, true, true, true, true, true, true, true, true, true, true, true, true, true, true, true, true, true, true, true, true, true, true, true, true, true, true, true, true, true, true, true, true, true, true, true, true, true, true, true, true, true, true, true, true, true, true, true, true, true, true, true, true, false, false, false] rfl rfl (any_of HT_.out (by kernel_rfl)) (fun _ _ _ h => h) (Or.inl ⟨by rfl, ?_⟩) ?_ ?_
                rotate_left
                ·
                 intro w'
                 go_simp
                 with_reducible rfl
                rotate_left
                · exact bA
                refine pure_ (i := 61) (N := some 112) (v := ?_) (a' := ?_) #[true, true, true, true, true, true, true, true, true, true, true, true, true, true, true, true, true, true, true, true, true, true, true, true, true, true, true, true, true, true, true, true, true, true, true, true, true, true, true, true, true, true, true, true, true, true, true, true, true, true, true, true, true, true, true, true, true, true, true, true, true, true, false, false] rfl rfl (any_of HT_.out (by kernel_rfl)) (fun _ _ _ h => h) (Or.inl ⟨by rfl, ?_⟩) ?_ ?_
                rotate_left
                ·
                 intro w'
                 go_simp
                 with_reducible rfl
                rotate_left
                · exact bA
                refine pure_ (i := 62) (N := some 113) (v := ?_) (a' := ?_) #[true, true, true, true, true, true, true, true, true, true, true, true, true, true, true, true, true, true, true, true, true, true, true, true, true, true, true, true, true, true, true, true, true, true, true, true, true, true, true, true, true, true, true, true, true, true, true, true, true, true, true, true, true, true, true, true, true, true, true, true, true, true, true, false] rfl rfl (any_of HT_.out (by kernel_rfl)) (fun _ _ _ h => h) (Or.inl ⟨by rfl, ?_⟩) ?_ ?_
                rotate_left
                ·
                 intro w'
                 go_simp
                 with_reducible rfl
                rotate_left
                · exact bA
                refine pure_ (i := 63) (N := some 0) (v := ?_) (a' := ?_) #[true, true, true, true, true, true, true, true, true, true, true, true, true, true, true, true, true, true, true, true, true, true, true, true, true, true, true, true, true, true, true, true, true, true, true, true, true, true, true, true, true, true, true, true, true, true, true, true, true, true, true, true, true, true, true, true, true, true, true, true, true, true, true, true] rfl rfl (any_of HT_.out (by kernel_rfl)) (fun _ _ _ h => h) (Or.inl ⟨by rfl, ?_⟩) ?_ ?_
                rotate_left
                ·
                 intro w'
                 go_simp
                 with_reducible rfl
                rotate_left
                · exact bA
                refine done_ (done_of HT_.out (by kernel_rfl)) ?_
                try go_wp2
                go_ret
                exact ⟨by first | rfl | (simp [errW_none, errW_some] <;> rfl) | (simp [*, errW_none, errW_some] <;> rfl), by repeat (first | (with_reducible first | exact HB.out | apply below_alloc | apply pw_below_drewN | apply below_drew1 | refine below_set ?_ GE207.out | refine below_set ?_ GE208.out | refine below_set ?_ GE209.out | refine below_set ?_ GE229.out) | exact HB.out)⟩
               ·
                replace c22 := Bool.eq_false_iff.mpr c22
                subst c22
                have H1 : (none) = some r := by rw [if_neg (show ¬ (false = true) by decide)] at H; exact H
                clear H
                have H := H1
                clear H1
                exact absurd H (by simp)
              ·
               rw [if_neg c20] at H
               exact absurd H (by simp)
             ·
              replace c19 := Bool.eq_false_iff.mpr c19
              subst c19
              have H1 : (none) = some r := by rw [if_neg (show ¬ (false = true) by decide)] at H; exact H
              clear H
              have H := H1
              clear H1
              exact absurd H (by simp)
            ·
             rw [if_neg c18] at H
             exact absurd H (by simp)
           ·
            rw [if_neg c17] at H
            exact absurd H (by simp)
          ·
           rw [if_neg c16] at H
           exact absurd H (by simp)
         ·
          rw [if_neg c15] at H
          exact absurd H (by simp)
        ·
         rw [if_neg c14] at H
         exact absurd H (by simp)
       ·
        rw [if_neg c13] at H
        exact absurd H (by simp)
      ·
       rw [if_neg c12] at H
       exact absurd H (by simp)
     ·
      rw [if_neg c11] at H
      exact absurd H (by simp)
    ·
     rw [if_neg c10] at H
     exact absurd H (by simp)
   ·
    rw [if_neg c9] at H
    exact absurd H (by simp)
  ·
   rw [if_neg c8] at H
   exact absurd H (by simp)
 ·
  rw [if_neg c7] at H
  exact absurd H (by simp)
end Go.Proofs.Ytobdhjnaglikaaa.Q
