/- crc.Sum and frame.Open in the form that the print gives all others. -/
import Derived.Test.YtjmcdnhbiamokaaOpen
namespace Go.Proofs.Ytjmcdnhbiamokaa.Q
open Go.RowKit
def crc_Sum.f (a0 : ByteArray) : Option (Int) := if a0.size ≤ 140737488351232 then some (CrcPure.more 0 (bs a0) : Nat) else none
theorem crc_Sum.calls (a0 : ByteArray) (r : Int) (w : World) (h : crc_Sum.f a0 = some r) :
    Calls Try.prog 21 #[.string a0] w fun e w' => e = .returned (.int .u32 r) ∧ Below w.heap.size w w' := P.crc_Sum.calls a0 r w h
def frame_Open.f (a0 : ByteArray) : Option (Int × ByteArray × Int) := if a0.size ≤ 140737488351232 then openF a0 else none
theorem frame_Open.calls (a0 : ByteArray) (r1 : Int) (r2 : ByteArray) (r3 : Int) (w : World) (h : frame_Open.f a0 = some (r1, r2, r3)) :
    Calls Try.prog 12 #[.string a0] w fun e w' => e = .returned (.tuple #[.int .i64 r1, .string r2, .int .i64 r3]) ∧ Below w.heap.size w w' := by
  unfold frame_Open.f at h
  split at h
  · rename_i hz
    exact open_any a0 hz (r1, r2, r3) h w
  · cases h
end Go.Proofs.Ytjmcdnhbiamokaa.Q
