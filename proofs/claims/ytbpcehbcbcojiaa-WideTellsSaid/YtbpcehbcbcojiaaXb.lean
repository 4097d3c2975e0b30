import Derived.Test.YtbpcehbcbcojiaaBits
import Derived.Test.YtbpcehbcbcojiaaLz
namespace Go.Proofs.Ytbpcehbcbcojiaa.D
open Go.RowKit Go.Proofs.YtbpcehbcbcojiaaW.PrintWords Go.Proofs.YtbpcehbcbcojiaaW.PrintLast
def bits_Sub64.f (x y b : Int) : Option (Int × Int) := if 0 ≤ x ∧ x < 18446744073709551616 ∧ 0 ≤ y ∧ y < 18446744073709551616 ∧ 0 ≤ b ∧ b ≤ 1 then some ((x - y - b) % 18446744073709551616, if x < y + b then 1 else 0) else none
theorem bits_Sub64.run (x y b r1 r2 : Int) (w : World) (h : bits_Sub64.f x y b = some (r1, r2)) :
  (callFunc 35 #[.int .u64 x, .int .u64 y, .int .u64 b]).run Try.prog w = .ok (.value (.tuple #[.int .u64 r1, .int .u64 r2])) w := by
 unfold bits_Sub64.f at h
 split at h
 ·
  rename_i hc
  obtain ⟨h1, h2⟩ := Prod.mk.injEq .. ▸ Option.some.inj h
  obtain ⟨x, rfl⟩ := Int.eq_ofNat_of_zero_le hc.1
  obtain ⟨y, rfl⟩ := Int.eq_ofNat_of_zero_le hc.2.2.1
  obtain ⟨b, rfl⟩ := Int.eq_ofNat_of_zero_le hc.2.2.2.2.1
  obtain ⟨d, rfl⟩ := Int.eq_ofNat_of_zero_le (a := r1) (by omega)
  have hk : 0 ≤ r2 ∧ r2 ≤ 1 := by split at h2 <;> omega
  obtain ⟨k, rfl⟩ := Int.eq_ofNat_of_zero_le hk.1
  exact run_sub64' x y b d k (by omega) (by omega) (by split at h2 <;> omega) (by omega) (by omega) (by omega) w
 ·
  cases h
end Go.Proofs.Ytbpcehbcbcojiaa.D
