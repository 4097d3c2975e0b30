import Derived.Test.YtbpcehbcbcojiaaPureA
namespace Go.Proofs.Ytbpcehbcbcojiaa
open Go.RowKit Go.Proofs.YtbpcehbcbcojiaaW.PrintWords Go.Proofs.YtbpcehbcbcojiaaW.PrintLast Go.Proofs.YtbpcehbcbcojiaaW.PrintMore
open Dec
set_option linter.unusedVariables false
abbrev hi (n : Nat) : Int := ((HI n : Nat) : Int)
abbrev lo (n : Nat) : Int := ((LO n : Nat) : Int)
theorem arg {a b : Int} (h : (Lit.int .u64 a).wf = true) (k : (Lit.int .u64 b).wf = true) : ∃ n, n < M128 ∧ a = hi n ∧ b = lo n := by
 obtain ⟨x, rfl, hx⟩ := wf_nat h
 obtain ⟨y, rfl, hy⟩ := wf_nat k
 exact ⟨V x y, V_lt hx hy, by unfold hi; rw [HI_V hy], by unfold lo; rw [LO_V hy]⟩
theorem rng {n : Nat} (h : n < M128) : in64 (hi n) ∧ in64 (lo n) := ⟨in64_nat (HI_lt h), in64_nat (LO_lt n)⟩
theorem add_f (n m : Nat) (hn : n < M128) (hm : m < M128) : Q.wide_Add.f (hi n) (lo n) (hi m) (lo m) = some (sized (n + m)) := by
 unfold Q.wide_Add.f; rw [if_pos ⟨(rng hn).1, (rng hn).2, (rng hm).1, (rng hm).2⟩, val_HILO, val_HILO]
theorem mul_f (n m : Nat) (hn : n < M128) (hm : m < M128) : Q.wide_Mul.f (hi n) (lo n) (hi m) (lo m) = some (sized (n * m)) := by
 unfold Q.wide_Mul.f; rw [if_pos ⟨(rng hn).1, (rng hn).2, (rng hm).1, (rng hm).2⟩, val_HILO, val_HILO]
theorem sub_f' (n m : Nat) (hn : n < M128) (hm : m < M128) : Q.wide_Sub.f (hi n) (lo n) (hi m) (lo m) = some (if m ≤ n then (hi (n - m), lo (n - m), true) else (0, 0, false)) := by
 unfold Q.wide_Sub.f; rw [if_pos ⟨(rng hn).1, (rng hn).2, (rng hm).1, (rng hm).2⟩, val_HILO, val_HILO]
theorem cmp_f' (n m : Nat) (hn : n < M128) (hm : m < M128) : Q.wide_Cmp.f (hi n) (lo n) (hi m) (lo m) = some (cmpR n m) := by
 unfold Q.wide_Cmp.f; rw [if_pos ⟨(rng hn).1, (rng hn).2, (rng hm).1, (rng hm).2⟩, val_HILO, val_HILO]
theorem quo_f (n m : Nat) (hn : n < M128) (hm : m < M128) : Q.wide_Div.f (hi n) (lo n) (hi m) (lo m) = some (Q.quo n m) := by
 unfold Q.wide_Div.f; rw [if_pos ⟨(rng hn).1, (rng hn).2, (rng hm).1, (rng hm).2⟩, val_HILO, val_HILO]
theorem sized_lt {n : Nat} (h : n < M128) : sized n = (hi n, lo n, true) := by unfold sized; exact if_pos h
theorem small {n : Nat} (h : W64 n) : hi n = 0 ∧ lo n = (n : Int) := by
 refine ⟨?_, ?_⟩
 ·
  show ((HI n : Nat) : Int) = 0; unfold HI; unfold W64 at h; omega
 ·
  show ((LO n : Nat) : Int) = n; unfold LO; unfold W64 at h; omega
end Go.Proofs.Ytbpcehbcbcojiaa
