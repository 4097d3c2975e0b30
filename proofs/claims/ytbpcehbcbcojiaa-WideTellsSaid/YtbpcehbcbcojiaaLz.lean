import Derived.Test.YtbpcehbcbcojiaaShelf
import Derived.Test.YtbpcehbcbcojiaaProg
import Derived.WalkKit
import Derived.Test.YtbpcehbcbcojiaaWWords
import Derived.Test.YtbpcehbcbcojiaaWLast
namespace Go.Proofs.Ytbpcehbcbcojiaa.D
open Go.RowKit Go.Proofs.YtbpcehbcbcojiaaW.PrintWords Go.Proofs.YtbpcehbcbcojiaaW.PrintLast
def bits_LeadingZeros64.f (a0 : Int) : Option (Int) := if 0 ≤ a0 ∧ a0 ≤ 18446744073709551615 then some (64 - (Lib.bitLen a0.toNat : Int)) else none
theorem bits_LeadingZeros64.calls (a0 : Int) (r : Int) (w : World) (h : bits_LeadingZeros64.f a0 = some r) : Calls Try.prog 40 #[.int .u64 a0] w fun e w' => e = .returned (.int .i64 r) ∧ Drawn0 w w' := by
 unfold bits_LeadingZeros64.f at h
 split at h
 ·
  rename_i hc
  obtain rfl := Option.some.inj h
  refine (Try.bits_LeadingZeros64 a0 w hc.1 hc.2).mono ?_
  rintro e w' ⟨rfl, rfl⟩
  exact ⟨rfl, Drawn0.refl _⟩
 ·
  cases h
end Go.Proofs.Ytbpcehbcbcojiaa.D
