/- WideBack, over plain numbers: what is added is taken away again; what is divided comes back; a text is read as it was. -/
import Derived.Test.YtbpcehbcbcojiaaPureB
import Derived.Test.YtbpcehbcbcojiaaQx9
namespace Go.Proofs.Ytbpcehbcbcojiaa.Pure
open Go.RowKit Go.Proofs.Ytbpcehbcbcojiaa.Q Go.Proofs.YtbpcehbcbcojiaaW.PrintWords Go.Proofs.YtbpcehbcbcojiaaW.PrintLast Dec
theorem back_j1 (n m : Nat) (hn : n < M128) (hm : m < M128) (k : Nat) : samphirelaw01_WideBack.j1 (k + 1) false (hi n) (lo n) (hi m) (lo m) = some true := by
  simp only [samphirelaw01_WideBack.j1]
  rw [if_neg (by decide)]
  refine D.bnd (quo_f n m hn hm) ?_
  by_cases hz : m = 0
  · subst hz
    unfold quo
    rw [if_pos rfl]
    dsimp only
    rw [if_neg (by decide), if_pos (by decide)]
    exact D.bnd awake rfl
  · rw [quo_pos n m hz]
    dsimp only
    rw [if_pos rfl]
    have hle : n / m * m ≤ n := Nat.div_mul_le_self _ _
    have hq : n / m < M128 := Nat.lt_of_le_of_lt (Nat.div_le_self _ _) hn
    have hr : n % m < M128 := Nat.lt_of_le_of_lt (Nat.mod_le _ _) hn
    have h1 := mul_f (n / m) m hq hm
    rw [sized_lt (Nat.lt_of_le_of_lt hle hn)] at h1
    refine D.bnd h1 ?_
    have h2 := add_f (n / m * m) (n % m) (Nat.lt_of_le_of_lt hle hn) hr
    rw [Nat.mul_comm, Nat.div_add_mod, sized_lt hn] at h2
    rw [Nat.mul_comm]
    refine D.bnd h2 ?_
    dsimp only
    rw [if_pos rfl, if_pos rfl, if_pos (eqb_self n)]
    have h3 := cmp_f' (n % m) m hr hm
    rw [show cmpR (n % m) m = -1 by unfold cmpR; rw [if_pos (Nat.mod_lt _ (Nat.pos_of_ne_zero hz))]] at h3
    refine D.bnd h3 ?_
    rw [if_pos (by decide)]
    exact D.bnd awake rfl
theorem back_j0 (n m : Nat) (hn : n < M128) (hm : m < M128) (k : Nat) : samphirelaw01_WideBack.j0 (k + 1 + 1) (hi n) (lo n) (hi m) (lo m) = some true := by
  simp only [samphirelaw01_WideBack.j0]
  refine D.bnd (text_f' n hn) ?_
  refine D.bnd (readT n hn) ?_
  dsimp only
  rw [if_pos rfl, ne_self]
  exact back_j1 n m hn hm k
theorem WideBack (a0 a1 b0 b1 : Int) (h0 : (Lit.int .u64 a0).wf = true) (h1 : (Lit.int .u64 a1).wf = true) (h2 : (Lit.int .u64 b0).wf = true) (h3 : (Lit.int .u64 b1).wf = true) : samphirelaw01_WideBack.f (0 + 1 + 1) a0 a1 b0 b1 = some true := by
  obtain ⟨n, hn, rfl, rfl⟩ := arg h0 h1
  obtain ⟨m, hm, rfl, rfl⟩ := arg h2 h3
  unfold samphirelaw01_WideBack.f
  refine D.bnd (add_f n m hn hm) ?_
  by_cases hl : n + m < M128
  · rw [sized_lt hl]
    dsimp only
    rw [if_pos rfl]
    have hs := sub_f' (n + m) m hl hm
    rw [if_pos (Nat.le_add_left _ _), Nat.add_sub_cancel] at hs
    refine D.bnd hs ?_
    dsimp only
    rw [if_pos rfl, ne_self, if_neg (by decide)]
    exact back_j0 n m hn hm 0
  · rw [sized_ge hl]
    dsimp only
    rw [if_neg (by decide)]
    exact back_j0 n m hn hm 0
theorem wideBack_walk (a0 a1 b0 b1 : Int) (W : World) (h0 : (Lit.int .u64 a0).wf = true) (h1 : (Lit.int .u64 a1).wf = true) (h2 : (Lit.int .u64 b0).wf = true) (h3 : (Lit.int .u64 b1).wf = true) :
    Calls Try.prog 9 #[.agg #[.int .u64 a0, .int .u64 a1], .agg #[.int .u64 b0, .int .u64 b1]] W fun e w' => e = .returned (.bool true) ∧ Below W.heap.size W w' :=
  samphirelaw01_WideBack.calls _ a0 a1 b0 b1 true W (WideBack a0 a1 b0 b1 h0 h1 h2 h3)
end Go.Proofs.Ytbpcehbcbcojiaa.Pure
