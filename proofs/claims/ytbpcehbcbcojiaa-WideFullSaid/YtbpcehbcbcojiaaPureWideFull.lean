/- WideFull, over plain numbers: the product of two numbers of 64 bits is that of both as numbers of 128. -/
import Derived.Test.YtbpcehbcbcojiaaPureB
import Derived.Test.YtbpcehbcbcojiaaQx5
namespace Go.Proofs.Ytbpcehbcbcojiaa.Pure
open Go.RowKit Go.Proofs.Ytbpcehbcbcojiaa.Q Go.Proofs.YtbpcehbcbcojiaaW.PrintWords Go.Proofs.YtbpcehbcbcojiaaW.PrintLast
theorem WideFull : samphirelaw01_WideFull.Pure := by
  intro a0 a1 h0 h1
  obtain ⟨a, rfl, ha⟩ := wf_nat h0
  obtain ⟨b, rfl, hb⟩ := wf_nat h1
  have hab : a * b < M128 := by
    have : a * b ≤ 18446744073709551615 * 18446744073709551615 := Nat.mul_le_mul (by unfold W64 at ha; omega) (by unfold W64 at hb; omega)
    exact Nat.lt_of_le_of_lt this (by decide)
  unfold samphirelaw01_WideFull.f
  refine D.bnd (of_f a ha) ?_
  refine D.bnd (of_f b hb) ?_
  have hm : wide_Mul.f 0 (a : Int) 0 (b : Int) = some (hi (a * b), lo (a * b), true) := by
    unfold wide_Mul.f
    rw [if_pos ⟨by decide, in64_nat ha, by decide, in64_nat hb⟩]
    have e1 : val 0 (a : Int) = a := by unfold val V; simp
    have e2 : val 0 (b : Int) = b := by unfold val V; simp
    rw [e1, e2, sized_lt hab]
  have hf : ∀ x y : Nat, W64 x → W64 y → wide_Full.f (x : Int) (y : Int) = some (hi (x * y), lo (x * y)) := by
    intro x y hx hy
    unfold wide_Full.f
    rw [if_pos ⟨in64_nat hx, in64_nat hy⟩]; rfl
  refine D.bnd hm ?_
  dsimp only
  rw [if_pos rfl]
  refine D.bnd (hf a b ha hb) ?_
  dsimp only
  rw [if_pos (eqb_self _)]
  have h2 := hf b a hb ha
  rw [Nat.mul_comm] at h2
  refine D.bnd h2 ?_
  dsimp only
  rw [if_pos (eqb_self _)]
  exact D.bnd awake rfl
end Go.Proofs.Ytbpcehbcbcojiaa.Pure
