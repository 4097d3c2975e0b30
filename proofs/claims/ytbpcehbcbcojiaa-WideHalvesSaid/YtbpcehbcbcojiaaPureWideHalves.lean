/- WideHalves, over plain numbers: a number is twice its half, and what is left over. -/
import Derived.Test.YtbpcehbcbcojiaaPureB
import Derived.Test.YtbpcehbcbcojiaaQx7
namespace Go.Proofs.Ytbpcehbcbcojiaa.Pure
open Go.RowKit Go.Proofs.Ytbpcehbcbcojiaa.Q Go.Proofs.YtbpcehbcbcojiaaW.PrintWords Go.Proofs.YtbpcehbcbcojiaaW.PrintLast
theorem WideHalves (a0 a1 : Int) (h0 : (Lit.int .u64 a0).wf = true) (h1 : (Lit.int .u64 a1).wf = true) : samphirelaw01_WideHalves.f a0 a1 = some true := by
  obtain ⟨n, hn, rfl, rfl⟩ := arg h0 h1
  have e2 := small (n := 2) (by decide)
  unfold samphirelaw01_WideHalves.f
  refine D.bnd (of_f 2 (by decide)) ?_
  have hq := quo_f n 2 hn (by decide)
  rw [e2.1, e2.2, quo_pos n 2 (by decide)] at hq
  refine D.bnd hq ?_
  have ht := add_f (n / 2) (n / 2) (by unfold M128 at *; omega) (by unfold M128 at *; omega)
  rw [sized_lt (by unfold M128 at *; omega)] at ht
  refine D.bnd ht ?_
  have hs := add_f (n / 2 + n / 2) (n % 2) (by unfold M128 at *; omega) (by unfold M128 at *; omega)
  rw [show n / 2 + n / 2 + n % 2 = n by omega, sized_lt hn] at hs
  refine D.bnd hs ?_
  dsimp only
  rw [if_pos rfl, if_pos rfl, if_pos rfl, if_pos (eqb_self n)]
  have et : Int.tmod (lo n) 2 = ((n % 2 : Nat) : Int) := by
    have : Int.tmod (lo n) 2 = ((LO n % 2 : Nat) : Int) := rfl
    rw [this, show LO n % 2 = n % 2 by unfold LO; omega]
  rw [et]
  have er := small (n := n % 2) (by unfold W64; omega)
  refine D.bnd (of_f (n % 2) (by unfold W64; omega)) ?_
  dsimp only
  rw [er.1, er.2]
  rw [if_pos (by simp)]
  exact D.bnd awake rfl
theorem wideHalves_walk (a0 a1 : Int) (W : World) (h0 : (Lit.int .u64 a0).wf = true) (h1 : (Lit.int .u64 a1).wf = true) :
    Calls Try.prog 7 #[.agg #[.int .u64 a0, .int .u64 a1]] W fun e w' => e = .returned (.bool true) ∧ Below W.heap.size W w' :=
  samphirelaw01_WideHalves.calls a0 a1 true W (WideHalves a0 a1 h0 h1)
end Go.Proofs.Ytbpcehbcbcojiaa.Pure
