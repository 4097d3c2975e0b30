import Derived.Test.YthgacimoifbhiaaQx0
import Derived.Test.YthgacimoifbhiaaQx1
namespace Go.Proofs.Ythgacimoifbhiaa.Q
open Go.RowKit Go.Proofs.YthgacimoifbhiaaW.PrintWords Go.Proofs.YthgacimoifbhiaaW.PrintLast Go.Proofs.YthgacimoifbhiaaW.PrintMore
attribute [local go_sem] max2_int min2_int max_two min_two max_three min_three max_four min_four
set_option linter.unusedVariables false
set_option linter.unusedSimpArgs false
def reserve_Add.f (k : Nat) (a0_0 : Int) (a0_1 : Int) (l0_2 : List ByteArray) (a1 : ByteArray) (l2_0 : List Int) (a2_1 : Int) : Option (Int × Int × List ByteArray × List Int × Int × Int) := (reserve_Right.f a0_0 a0_1 l0_2).bind fun t117 => (if t117 = true then (if (a1.size : Int) > 64 then (some (a0_0, a0_1, l0_2, l2_0, a2_1, 5)) else (if a0_1 = 4611686018427387904 then (some (a0_0, a0_1, l0_2, l2_0, a2_1, 12)) else ((clone_.f l0_2).bind fun t118 => (if a0_1 < (IntKind.u64.wrap (a0_0)) then (if t118.length < 8796093022208 then (some (a0_0, IntKind.u64.wrap (a0_1 + 1), (t118 ++ [a1]), l2_0, a2_1, 0)) else (none)) else ((draw_Below.f k l2_0 a2_1 (IntKind.u64.wrap (a0_1 + 1))).bind fun bt124 => (if bt124.2.2.2 = 0 then (if bt124.1 < (IntKind.u64.wrap (a0_0)) then (if 0 ≤ bt124.1 then (if bt124.1 < (t118.length : Int) then (some (a0_0, IntKind.u64.wrap (a0_1 + 1), (t118.set (bt124.1 : Int).toNat a1), bt124.2.1, bt124.2.2.1, 0)) else (none)) else (none)) else (some (a0_0, IntKind.u64.wrap (a0_1 + 1), t118, bt124.2.1, bt124.2.2.1, 0))) else (some (a0_0, a0_1, l0_2, l2_0, a2_1, bt124.2.2.2)))))))) else (some (a0_0, a0_1, l0_2, l2_0, a2_1, 1)))
theorem reserve_Add.mono : ∀ a0 a1 a2 a3 a4 a5 k, LeO (reserve_Add.f k a0 a1 a2 a3 a4 a5) (reserve_Add.f (k + 1) a0 a1 a2 a3 a4 a5) := by
 intro a0 a1 a2 a3 a4 a5 k
 unfold reserve_Add.f
 repeat' first
   | (with_reducible exact draw_Below.mono _ _ _ _)
   | (with_reducible exact LeO.refl _)
   | (with_reducible exact LeO.none _)
   | (with_reducible refine LeO.ite ?_ ?_)
   | (with_reducible refine LeO.bind ?_ (fun _ => ?_))
   | exact draw_Below.mono _ _ _ _
   | exact LeO.none _
   | refine LeO.ite ?_ ?_
   | refine LeO.bind ?_ (fun _ => ?_)
def reserve_Add.T9 : Bool × List (List Nat × List Nat) := (true, [([], []), ([0], [0]), ([], []), ([2], [2]), ([3], [3]), ([], []), ([], []), ([6], [6]), ([5, 7], [5, 7]), ([1, 4, 8], [1, 4, 8]), ([], []), ([9, 8, 0, 1, 2, 3, 4, 5, 6, 7, 8, 9], [9]), ([10, 11, 0, 1, 2, 3, 4, 5, 6, 7, 8, 9, 10, 11], [10]), ([12, 0, 1, 2, 3, 4, 5, 6, 7, 8, 9, 10, 11, 12], [])])
def reserve_Add.B9 : List Nat := [0, 1, 0, 4, 12, 0, 0, 64, 224, 511, 0, 1023, 4095, 8191]
theorem reserve_Add.tab9 : rtab .any (opsOf Try.f10 9) = reserve_Add.T9 := by kernel_rfl
theorem reserve_Add.bits9 : waitsOk reserve_Add.T9.2 reserve_Add.B9 = true := by kernel_rfl
def reserve_Add.T15 : Bool × List (List Nat × List Nat) := (true, [([], []), ([0], [0]), ([], []), ([2], [2]), ([3], [3]), ([], []), ([1, 4, 5], [1, 4, 5]), ([], []), ([6, 0, 1, 2, 3, 4, 5, 6], [6]), ([7, 8, 0, 1, 2, 3, 4, 5, 6, 7, 8], [7]), ([9, 0, 1, 2, 3, 4, 5, 6, 7, 8, 9], [])])
def reserve_Add.B15 : List Nat := [0, 1, 0, 4, 12, 0, 63, 0, 127, 511, 1023]
theorem reserve_Add.tab15 : rtab .any (opsOf Try.f10 15) = reserve_Add.T15 := by kernel_rfl
theorem reserve_Add.bits15 : waitsOk reserve_Add.T15.2 reserve_Add.B15 = true := by kernel_rfl
end Go.Proofs.Ythgacimoifbhiaa.Q
