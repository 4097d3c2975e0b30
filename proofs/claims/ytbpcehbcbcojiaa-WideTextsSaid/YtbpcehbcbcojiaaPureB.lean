import Derived.Test.YtbpcehbcbcojiaaPureA
namespace Go.Proofs.Ytbpcehbcbcojiaa
open Go.RowKit Go.Proofs.YtbpcehbcbcojiaaW.PrintWords Go.Proofs.YtbpcehbcbcojiaaW.PrintLast Go.Proofs.YtbpcehbcbcojiaaW.PrintMore
open Dec
set_option linter.unusedVariables false
abbrev hi (n : Nat) : Int := ((HI n : Nat) : Int)
abbrev lo (n : Nat) : Int := ((LO n : Nat) : Int)
theorem arg {a b : Int} (h : (Lit.int .u64 a).wf = true) (k : (Lit.int .u64 b).wf = true) : ∃ n, n < M128 ∧ a = hi n ∧ b = lo n := by
 obtain ⟨x, rfl, hx⟩ := wf_nat h
 obtain ⟨y, rfl, hy⟩ := wf_nat k
 exact ⟨V x y, V_lt hx hy, by unfold hi; rw [HI_V hy], by unfold lo; rw [LO_V hy]⟩
theorem rng {n : Nat} (h : n < M128) : in64 (hi n) ∧ in64 (lo n) := ⟨in64_nat (HI_lt h), in64_nat (LO_lt n)⟩
theorem quo_pos (n m : Nat) (h : m ≠ 0) : Q.quo n m = (hi (n / m), lo (n / m), hi (n % m), lo (n % m), true) := by unfold Q.quo; rw [if_neg h]
theorem text_f' (n : Nat) (hn : n < M128) : Q.wide_Text.f (hi n) (lo n) = some (str (text n)) := by
 unfold Q.wide_Text.f; rw [if_pos (rng hn), val_HILO]
theorem sized_lt {n : Nat} (h : n < M128) : sized n = (hi n, lo n, true) := by unfold sized; exact if_pos h
theorem sized_ge {n : Nat} (h : ¬ n < M128) : sized n = (0, 0, false) := by unfold sized; exact if_neg h
theorem small {n : Nat} (h : W64 n) : hi n = 0 ∧ lo n = (n : Int) := by
 refine ⟨?_, ?_⟩
 ·
  show ((HI n : Nat) : Int) = 0; unfold HI; unfold W64 at h; omega
 ·
  show ((LO n : Nat) : Int) = n; unfold LO; unfold W64 at h; omega
end Go.Proofs.Ytbpcehbcbcojiaa
