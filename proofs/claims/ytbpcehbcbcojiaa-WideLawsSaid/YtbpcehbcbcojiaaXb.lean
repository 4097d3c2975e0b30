/- math/bits.Add64 and Sub64 in the form that the print asks for what the model stands in for. -/
import Derived.Test.YtbpcehbcbcojiaaBits
import Derived.Test.YtbpcehbcbcojiaaLz
namespace Go.Proofs.Ytbpcehbcbcojiaa.D
open Go.RowKit Go.Proofs.YtbpcehbcbcojiaaW.PrintWords Go.Proofs.YtbpcehbcbcojiaaW.PrintLast
def bits_Add64.f (x y c : Int) : Option (Int × Int) := if 0 ≤ x ∧ x < 18446744073709551616 ∧ 0 ≤ y ∧ y < 18446744073709551616 ∧ 0 ≤ c ∧ c ≤ 1 then some ((x + y + c) % 18446744073709551616, (x + y + c) / 18446744073709551616) else none
def bits_Sub64.f (x y b : Int) : Option (Int × Int) := if 0 ≤ x ∧ x < 18446744073709551616 ∧ 0 ≤ y ∧ y < 18446744073709551616 ∧ 0 ≤ b ∧ b ≤ 1 then some ((x - y - b) % 18446744073709551616, if x < y + b then 1 else 0) else none
theorem bits_Add64.run (x y c r1 r2 : Int) (w : World) (h : bits_Add64.f x y c = some (r1, r2)) :
    (callFunc 28 #[.int .u64 x, .int .u64 y, .int .u64 c]).run Try.prog w = .ok (.value (.tuple #[.int .u64 r1, .int .u64 r2])) w := by
  unfold bits_Add64.f at h
  split at h
  · rename_i hc
    obtain ⟨h1, h2⟩ := Prod.mk.injEq .. ▸ Option.some.inj h
    obtain ⟨x, rfl⟩ := Int.eq_ofNat_of_zero_le hc.1
    obtain ⟨y, rfl⟩ := Int.eq_ofNat_of_zero_le hc.2.2.1
    obtain ⟨c, rfl⟩ := Int.eq_ofNat_of_zero_le hc.2.2.2.2.1
    obtain ⟨s, rfl⟩ := Int.eq_ofNat_of_zero_le (a := r1) (by omega)
    obtain ⟨k, rfl⟩ := Int.eq_ofNat_of_zero_le (a := r2) (by omega)
    exact run_add64 x y c s k (by omega) (by omega) (by omega) w
  · cases h
theorem bits_Sub64.run (x y b r1 r2 : Int) (w : World) (h : bits_Sub64.f x y b = some (r1, r2)) :
    (callFunc 35 #[.int .u64 x, .int .u64 y, .int .u64 b]).run Try.prog w = .ok (.value (.tuple #[.int .u64 r1, .int .u64 r2])) w := by
  unfold bits_Sub64.f at h
  split at h
  · rename_i hc
    obtain ⟨h1, h2⟩ := Prod.mk.injEq .. ▸ Option.some.inj h
    obtain ⟨x, rfl⟩ := Int.eq_ofNat_of_zero_le hc.1
    obtain ⟨y, rfl⟩ := Int.eq_ofNat_of_zero_le hc.2.2.1
    obtain ⟨b, rfl⟩ := Int.eq_ofNat_of_zero_le hc.2.2.2.2.1
    obtain ⟨d, rfl⟩ := Int.eq_ofNat_of_zero_le (a := r1) (by omega)
    have hk : 0 ≤ r2 ∧ r2 ≤ 1 := by split at h2 <;> omega
    obtain ⟨k, rfl⟩ := Int.eq_ofNat_of_zero_le hk.1
    exact run_sub64' x y b d k (by omega) (by omega) (by split at h2 <;> omega) (by omega) (by omega) (by omega) w
  · cases h
def bits_Mul64.f (x y : Int) : Option (Int × Int) := if 0 ≤ x ∧ x < 18446744073709551616 ∧ 0 ≤ y ∧ y < 18446744073709551616 then some (((x.toNat * y.toNat / 18446744073709551616 : Nat) : Int), ((x.toNat * y.toNat % 18446744073709551616 : Nat) : Int)) else none
theorem bits_Mul64.calls (x y r1 r2 : Int) (w : World) (h : bits_Mul64.f x y = some (r1, r2)) :
    Calls Try.prog 30 #[.int .u64 x, .int .u64 y] w fun e w' => e = .returned (.tuple #[.int .u64 r1, .int .u64 r2]) ∧ Drawn0 w w' := by
  unfold bits_Mul64.f at h
  split at h
  · rename_i hc
    obtain ⟨h1, h2⟩ := Prod.mk.injEq .. ▸ Option.some.inj h
    obtain ⟨x, rfl⟩ := Int.eq_ofNat_of_zero_le hc.1
    obtain ⟨y, rfl⟩ := Int.eq_ofNat_of_zero_le hc.2.2.1
    subst h1 h2
    refine (Try.bits_Mul64 x y (by omega) (by omega) w).mono ?_
    rintro e w' ⟨rfl, rfl⟩
    exact ⟨rfl, Drawn0.refl _⟩
  · cases h
end Go.Proofs.Ytbpcehbcbcojiaa.D
