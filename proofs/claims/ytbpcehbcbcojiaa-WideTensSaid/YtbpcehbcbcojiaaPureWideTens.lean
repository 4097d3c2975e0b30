/- WideTens, over plain numbers: a text with a 0 behind is ten times the number, or none, if that is too great. -/
import Derived.Test.YtbpcehbcbcojiaaPureB
import Derived.Test.YtbpcehbcbcojiaaQx8
namespace Go.Proofs.Ytbpcehbcbcojiaa.Pure
open Go.RowKit Go.Proofs.Ytbpcehbcbcojiaa.Q Go.Proofs.YtbpcehbcbcojiaaW.PrintWords Go.Proofs.YtbpcehbcbcojiaaW.PrintLast Dec
theorem bs_append (s t : ByteArray) : bs (s ++ t) = bs s ++ bs t := by simp [bs]
theorem WideTens (a0 a1 : Int) (h0 : (Lit.int .u64 a0).wf = true) (h1 : (Lit.int .u64 a1).wf = true) : samphirelaw01_WideTens.f a0 a1 = some true := by
  obtain ⟨n, hn, rfl, rfl⟩ := arg h0 h1
  unfold samphirelaw01_WideTens.f
  refine D.bnd (text_f' n hn) ?_
  have hsz := text_size hn
  rw [if_pos (by omega)]
  have hrd : wide_Read.f (str (text n) ++ (⟨#[48]⟩ : ByteArray)) = some (told (if n = 0 then none else if 10 * n < M128 then some (10 * n) else none)) := by
    unfold wide_Read.f
    rw [if_pos (by rw [ByteArray.size_append]; have : (⟨#[48]⟩ : ByteArray).size = 1 := rfl; omega), bs_append, bs_str _ (text_lt n)]
    have e48 : bs (⟨#[48]⟩ : ByteArray) = [48] := rfl
    rw [e48]
    congr 2
    by_cases hz : n = 0
    · subst hz
      rw [if_pos rfl]
      have : text 0 = [48] := by unfold text; rw [digs_lt (by decide)]; rfl
      rw [this]; rfl
    · rw [if_neg hz, ← read_text]
      congr 1
      unfold text
      rw [← digs_ten n hz, List.map_append]; rfl
  refine D.bnd hrd ?_
  refine D.bnd (of_f 10 (by decide)) ?_
  have hm := mul_f n 10 hn (by decide)
  rw [(small (n := 10) (by decide)).1, (small (n := 10) (by decide)).2, Nat.mul_comm] at hm
  refine D.bnd hm ?_
  by_cases hz : n = 0
  · subst hz
    rw [if_pos rfl]
    refine D.ift (by decide) ?_
    refine D.iff_ (by decide) ?_
    refine D.ift (by decide) ?_
    exact D.bnd awake rfl
  · have hne : (hi n == 0 && (lo n == 0)) = false := by
      have := eqb n 0
      rw [decide_eq_false hz] at this
      exact this
    rw [if_neg (by rw [hne]; decide), if_neg hz]
    by_cases hl : 10 * n < M128
    · rw [if_pos hl, sized_lt hl, told_some]
      refine D.ift rfl ?_
      refine D.ift (eqb_self _) ?_
      exact D.bnd awake rfl
    · rw [if_neg hl, sized_ge hl]
      refine D.ift rfl ?_
      refine D.ift rfl ?_
      exact D.bnd awake rfl
theorem wideTens_walk (a0 a1 : Int) (W : World) (h0 : (Lit.int .u64 a0).wf = true) (h1 : (Lit.int .u64 a1).wf = true) :
    Calls Try.prog 6 #[.agg #[.int .u64 a0, .int .u64 a1]] W fun e w' => e = .returned (.bool true) ∧ Below W.heap.size W w' :=
  samphirelaw01_WideTens.calls a0 a1 true W (WideTens a0 a1 h0 h1)
end Go.Proofs.Ytbpcehbcbcojiaa.Pure
