import Derived.Test.YtbpcehbcbcojiaaTR
namespace Go.Proofs.Ytbpcehbcbcojiaa
open Go.RowKit
namespace Q
def wide_Text.f (a0_0 a0_1 : Int) : Option ByteArray := if in64 a0_0 ∧ in64 a0_1 then some (str (text (val a0_0 a0_1))) else none
theorem wide_Text.calls (a0_0 : Int) (a0_1 : Int) (r : ByteArray) (w : World) (h : wide_Text.f a0_0 a0_1 = some r) :
  Calls Try.prog 14 #[.agg #[.int .u64 a0_0, .int .u64 a0_1]] w fun e w' => e = .returned (.string r) ∧ Below w.heap.size w w' := by
 unfold wide_Text.f at h
 split at h
 ·
  rename_i hc
  obtain ⟨c1, c2⟩ := hc
  obtain rfl := Option.some.inj h
  obtain ⟨a, rfl, ha⟩ := c1.nat
  obtain ⟨b, rfl, hb⟩ := c2.nat
  rw [val_nat]
  refine T.wide_Text.calls 50 a b _ w ?_
  have := text_f (V a b) (V_lt ha hb)
  rw [HI_V hb, LO_V hb] at this
  exact this
 ·
  cases h
def wide_Read.f (a0 : ByteArray) : Option (Int × Int × Bool) := if a0.size < 9223372036854775807 then some (told (read (bs a0))) else none
theorem wide_Read.calls (a0 : ByteArray) (r1 : Int) (r2 : Int) (r3 : Bool) (w : World) (h : wide_Read.f a0 = some (r1, r2, r3)) :
  Calls Try.prog 12 #[.string a0] w fun e w' => e = .returned (.tuple #[.agg #[.int .u64 r1, .int .u64 r2], .bool r3]) ∧ Below w.heap.size w w' := by
 unfold wide_Read.f at h
 split at h
 ·
  rename_i hc
  have h := Option.some.inj h
  exact T.wide_Read.calls (a0.size + 2) a0 r1 r2 r3 w ((read_f a0 hc _ (by omega)).trans (congrArg some h))
 ·
  cases h
end Q
end Go.Proofs.Ytbpcehbcbcojiaa
