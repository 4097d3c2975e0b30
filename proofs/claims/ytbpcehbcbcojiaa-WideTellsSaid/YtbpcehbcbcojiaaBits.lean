import Derived.Test.YtbpcehbcbcojiaaProg
import Derived.Shelf.Spec.BitsCarry
import Derived.WalkKit
namespace Go.Proofs.Ytbpcehbcbcojiaa
open Go.RowKit Go.Shelf
theorem run_add64 (x y c s k : Nat) (hc : c ≤ 1) (h : x + y + c = s + 18446744073709551616 * k) (hs : s < 18446744073709551616) (w : World) :
  (callFunc 28 #[.int .u64 (x : Int), .int .u64 (y : Int), .int .u64 (c : Int)]).run Try.prog w = .ok (.value (.tuple #[.int .u64 (s : Int), .int .u64 (k : Int)])) w := by
 have e1 : (x + y + c) % 18446744073709551616 = s := by omega
 have e2 : (x + y + c) / 18446744073709551616 = k := by omega
 rw [run_callFunc_extern (P := Try.prog) (f := 28) Try.func28 (by kernel_rfl) (by kernel_rfl) (by kernel_rfl) (e := add64Entry) (by kernel_rfl)]
 have hr : (add64Entry #[.int .u64 (x : Int), .int .u64 (y : Int), .int .u64 (c : Int)]).run Try.prog w = .ok (.tuple #[.int .u64 (((x + y + c) % 18446744073709551616 : Nat) : Int), .int .u64 (((x + y + c) / 18446744073709551616 : Nat) : Int)]) w := by
  have : c = 0 ∨ c = 1 := by omega
  rcases this with rfl | rfl <;> rfl
 rw [hr, e1, e2]
 rfl
theorem run_sub64' (x y b d k : Nat) (hb : b ≤ 1) (hk : k ≤ 1) (h : x + 18446744073709551616 * k = d + y + b) (hd : d < 18446744073709551616) (hx : x < 18446744073709551616) (hy : y < 18446744073709551616) (w : World) :
  (callFunc 35 #[.int .u64 (x : Int), .int .u64 (y : Int), .int .u64 (b : Int)]).run Try.prog w = .ok (.value (.tuple #[.int .u64 (d : Int), .int .u64 (k : Int)])) w := by
 have e1 : (x + 18446744073709551616 - y - b) % 18446744073709551616 = d := by omega
 have e2 : (if x < y + b then 1 else 0) = k := by split <;> omega
 rw [run_callFunc_extern (P := Try.prog) (f := 35) Try.func35 (by kernel_rfl) (by kernel_rfl) (by kernel_rfl) (e := sub64Entry) (by kernel_rfl), run_sub64 x y b hb]
 rw [e1, e2]
 rfl
#print axioms run_add64
end Go.Proofs.Ytbpcehbcbcojiaa
