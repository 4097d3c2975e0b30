/- crc.Sum in the form that the print gives all others. -/
import Derived.Test.YtjmcdnhbiamokaaCrcMore
namespace Go.Proofs.Ytjmcdnhbiamokaa.P
open Go.RowKit
def crc_Sum.f (a0 : ByteArray) : Option (Int) := if a0.size ≤ 140737488351232 then some (CrcPure.more 0 (bs a0) : Nat) else none
theorem crc_Sum.calls (a0 : ByteArray) (r : Int) (w : World) (h : crc_Sum.f a0 = some r) :
    Calls Try.prog 21 #[.string a0] w fun e w' => e = .returned (.int .u32 r) ∧ Below w.heap.size w w' := by
  unfold crc_Sum.f at h
  split at h
  · obtain rfl := Option.some.inj h
    exact sum_any a0 (by assumption) w
  · cases h
end Go.Proofs.Ytjmcdnhbiamokaa.P
