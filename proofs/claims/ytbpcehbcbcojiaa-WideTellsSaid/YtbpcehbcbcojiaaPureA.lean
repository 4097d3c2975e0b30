import Derived.Test.YtbpcehbcbcojiaaM2
import Derived.Test.YtbpcehbcbcojiaaQx4
namespace Go.Proofs.Ytbpcehbcbcojiaa
open Go.RowKit Go.Proofs.YtbpcehbcbcojiaaW.PrintWords Go.Proofs.YtbpcehbcbcojiaaW.PrintLast Go.Proofs.YtbpcehbcbcojiaaW.PrintMore
open Dec
set_option linter.unusedVariables false
theorem wf_nat {a : Int} (h : (Lit.int .u64 a).wf = true) : ∃ n : Nat, a = n ∧ W64 n := by
 have : 0 ≤ a ∧ a < 18446744073709551616 := by simp [Lit.wf, IntKind.min, IntKind.max, IntKind.signed, IntKind.bits] at h; omega
 exact ⟨a.toNat, by omega, by omega⟩
theorem digs_64 : digs 18446744073709551616 = [1, 8, 4, 4, 6, 7, 4, 4, 0, 7, 3, 7, 0, 9, 5, 5, 1, 6, 1, 6] := by
 repeat rw [digs_ge (by decide)]
 rw [digs_lt (by decide)]
 rfl
theorem awake : Q.samphirelaw01_awake.f = some true := by
 unfold Q.samphirelaw01_awake.f
 refine D.bnd (of_f 1 (by decide)) ?_
 have h1 : Q.wide_Add.f 0 18446744073709551615 0 1 = some (1, 0, true) := by decide +kernel
 refine D.bnd h1 ?_
 have h2 : Q.wide_Div.f 7 5 2 0 = some (0, 3, 1, 5, true) := by decide +kernel
 refine D.bnd h2 ?_
 have h3 : Q.wide_Read.f (⟨#[51, 52, 48, 50, 56, 50, 51, 54, 54, 57, 50, 48, 57, 51, 56, 52, 54, 51, 52, 54, 51, 51, 55, 52, 54, 48, 55, 52, 51, 49, 55, 54, 56, 50, 49, 49, 52, 53, 53]⟩ : ByteArray) = some (18446744073709551615, 18446744073709551615, true) := by decide +kernel
 refine D.bnd h3 ?_
 dsimp only
 rw [if_pos rfl, if_pos (by decide), if_pos rfl]
 refine D.bnd (of_f 3 (by decide)) ?_
 dsimp only
 rw [if_pos (by decide), if_pos (by decide), if_pos rfl, if_pos (by decide)]
 have h4 : Q.wide_Text.f 1 0 = some (str [49, 56, 52, 52, 54, 55, 52, 52, 48, 55, 51, 55, 48, 57, 53, 53, 49, 54, 49, 54]) := by
  unfold Q.wide_Text.f
  rw [if_pos (by decide), show val 1 0 = 18446744073709551616 from rfl]
  unfold text
  rw [digs_64]
  rfl
 refine D.bnd h4 ?_
 rw [if_pos (by decide +kernel)]
 have h5 : Q.wide_Cmp.f 1 0 18446744073709551615 18446744073709551615 = some (-1) := by decide +kernel
 refine D.bnd h5 ?_
 rw [if_pos rfl]
 have h6 : Q.wide_Full.f 3 4 = some (0, 12) := by decide +kernel
 refine D.bnd h6 ?_
 refine D.bnd (of_f 12 (by decide)) ?_
 rfl
end Go.Proofs.Ytbpcehbcbcojiaa
