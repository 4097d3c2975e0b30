import Derived.Shelf.Small.Strs
import Derived.Shelf.Bits.Mul64
import Derived.Test.YtobdhjnaglikaaaProg
namespace Go.Proofs
open Go.Shelf
def Try.lays106_ren : Go.Shelf.Ren := ⟨fun | 106 => 40 | 213 => 45 | 265 => 48 | n => n, fun | 9 => 9 | 3 => 3 | n => n, fun | n => n⟩
theorem Try.lays106 : Go.Proofs.Lays.n106 Try.prog Try.lays106_ren := {
 mixed := by kernel_rfl
 f106 := Try.func40.trans (congrArg some (by kernel_rfl))
 f213 := Try.func45.trans (congrArg some (by kernel_rfl))
 f265 := Try.func48.trans (congrArg some (by kernel_rfl))
 t3 := Try.underlying3
 a3 := Try.isAgg3
 z3 := Try.sizeOf3
 v3 := Try.zeroValue3
 t9 := Try.underlying9
 a9 := Try.isAgg9
 z9 := Try.sizeOf9
 v9 := Try.zeroValue9 }
open Go.RowKit in
theorem Try.strings_Compare (a b : ByteArray) (w : World) :
  Calls Try.prog 40 #[.string a, .string b] w fun e w' => e = .returned (.int .i64 (Lib.compareBytes a.data.toList b.data.toList)) ∧ w' = w := Any.strings_Compare Try.lays106 a b w
def Try.lays264_ren : Go.Shelf.Ren := ⟨fun | 264 => 44 | n => n, fun | 53 => 23 | 46 => 69 | n => n, fun | n => n⟩
theorem Try.lays264 : Go.Proofs.Lays.n264 Try.prog Try.lays264_ren := {
 mixed := by kernel_rfl
 f264 := Try.func44.trans (congrArg some (by kernel_rfl))
 t46 := Try.underlying69
 a46 := Try.isAgg69
 z46 := Try.sizeOf69
 v46 := Try.zeroValue69
 t53 := Try.underlying23
 a53 := Try.isAgg23
 z53 := Try.sizeOf23
 v53 := Try.zeroValue23 }
open Go.RowKit Go.Lib in
theorem Try.bits_Mul64 (x y : Nat) (hx : x < 18446744073709551616) (hy : y < 18446744073709551616) (w : World) :
  Calls Try.prog 44 #[.int .u64 x, .int .u64 y] w fun e w' => e = .returned (.tuple #[.int .u64 ((x * y / 18446744073709551616 : Nat) : Int), .int .u64 ((x * y % 18446744073709551616 : Nat) : Int)]) ∧ w' = w := Any.bits_Mul64 Try.lays264 x y hx hy w
end Go.Proofs
