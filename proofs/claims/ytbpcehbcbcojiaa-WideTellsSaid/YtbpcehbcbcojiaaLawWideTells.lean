import Derived.Test.YtbpcehbcbcojiaaRows
import Derived.Test.YtbpcehbcbcojiaaPureWideTells
import Derived.WalkKit
import Derived.ProofKit
import Derived.OpenShut
import Derived.ShutString
import Derived.ChangeOld
import Derived.Below
import Derived.SizedLaws
import Derived.Lib.SmallJoins
import Derived.SliceStrings
namespace Go.Proofs.Ytbpcehbcbcojiaa.wideTells
open Go.ChangeShapes Go.WideShapes Go.ChangeAt Go.RowKit
open Go.ChangeMaps (open_string shut_string)
set_option linter.unusedVariables false
set_option linter.unusedSimpArgs false
theorem own : ownKnob Try.prog.godebug = none := by kernel_rfl
set_option maxRecDepth 100000 in
theorem lifted (os : Os) (started : os.Started) (H : Type) (enc : TypeId × Value → H) :
  ReturnsInHanded {} Try.checked os 8 .any (Rows.wideTellsSpec.pre6 enc Try.prog Try.f8 Rows.wideTellsRow.domain false) (Rows.wideTellsSpec.post enc Try.prog Try.f8 false true false false) := by
 refine returnsInHanded_of_change_sized (C := Try.checked) own started (by kernel_rfl) Try.func8
  (ChangeSpec.witness6 (enc := enc) (C := Try.checked) false ⟨#[], #[.agg #[.int .u64 0, .int .u64 0], .agg #[.int .u64 0, .int .u64 0]], []⟩ 8 (by kernel_rfl) (by kernel_rfl) (by kernel_rfl) (by kernel_rfl)) ?_
 intro W base args ds gs before hval0 hW hcnd hsz0 _
 have hsz : (DataW.weightsEach Try.prog (Try.f8.params.toList ++ Rows.wideTellsSpec.plain.varTypes Try.prog) (ds ++ gs)).all (· ≤ reachBytes) = true := hsz0
 have hval : ∀ (j : Nat) t v, Try.f8.params[j]? = some t → args[j]? = some v → Value.okWide Try.prog W .any base t v := hval0
 have hW' := hW
 obtain ⟨p, q, hA0, hV, rfl, hfz, hnd⟩ := hW
 have hA : DataW.TrodAll enc Try.prog W 0 (fun _ => true) true Try.f8.params.toList args.toList ds p := hA0
 rw [Try.params8] at hA hval hsz
 obtain ⟨v0, vs0, d0, ds0, p0, q0, hargs, rfl, rfl, h0, r0⟩ := trodAll_cons hA
 obtain ⟨v1, vs1, d1, ds1, p1, q1, rfl, rfl, rfl, h1, r1⟩ := trodAll_cons r0
 obtain ⟨rfl, rfl, rfl⟩ := trodAll_nil r1
 obtain rfl : args = #[v0, v1] := by cases args; simp_all
 obtain ⟨rfl, rfl⟩ := trodVars_none hV
 obtain ⟨c0_0, c0_1, z0_0, z0_1, m0, rfl, rfl, rfl, hy0_0, hy0_1⟩ := Go.Joins.open_agg2 Try.underlying24 (by kernel_rfl) (show Try.prog.cellsOf 24 = 2 from by kernel_rfl) (hval 0 24 v0 rfl rfl) h0
 obtain ⟨a0_0, e0_0, rfl, w0_0⟩ := DataW.trod_int Try.underlying22 hy0_0
 obtain ⟨a0_1, e0_1, rfl, w0_1⟩ := DataW.trod_int Try.underlying22 hy0_1
 simp at e0_0 e0_1
 subst e0_0 e0_1
 obtain ⟨c1_0, c1_1, z1_0, z1_1, m1, rfl, rfl, rfl, hy1_0, hy1_1⟩ := Go.Joins.open_agg2 Try.underlying24 (by kernel_rfl) (show Try.prog.cellsOf 24 = 2 from by kernel_rfl) (hval 1 24 v1 rfl rfl) h1
 obtain ⟨a1_0, e1_0, rfl, w1_0⟩ := DataW.trod_int Try.underlying22 hy1_0
 obtain ⟨a1_1, e1_1, rfl, w1_1⟩ := DataW.trod_int Try.underlying22 hy1_1
 simp at e1_0 e1_1
 subst e1_0 e1_1
 clear hA0 hval0 hsz0 hsz
 refine (Go.Proofs.Ytbpcehbcbcojiaa.Pure.wideTells_walk a0_0 a0_1 a1_0 a1_1 W w0_0 w0_1 w1_0 w1_1).mono fun e W' ⟨he, bel⟩ => ?_
 subst he
 have rdP0 : ∀ sp : Nat → Bool, DataW.Trod enc Try.prog W' 0 sp true 24 (.agg #[.int .u64 a0_0, .int .u64 a0_1]) (DataW.agg [.lit (.int .u64 a0_0), .lit (.int .u64 a0_1)]) [] := fun sp => Go.Joins.shut_agg2 (y0 := (.lit (.int .u64 a0_0), [])) (y1 := (.lit (.int .u64 a0_1), [])) Try.underlying24 (by kernel_rfl) (show Try.prog.cellsOf 24 = 2 from by kernel_rfl) ⟨1, by simp [DataW.trod, Try.underlying22, w0_0]⟩ ⟨1, by simp [DataW.trod, Try.underlying22, w0_1]⟩
 have rdP1 : ∀ sp : Nat → Bool, DataW.Trod enc Try.prog W' 0 sp true 24 (.agg #[.int .u64 a1_0, .int .u64 a1_1]) (DataW.agg [.lit (.int .u64 a1_0), .lit (.int .u64 a1_1)]) [] := fun sp => Go.Joins.shut_agg2 (y0 := (.lit (.int .u64 a1_0), [])) (y1 := (.lit (.int .u64 a1_1), [])) Try.underlying24 (by kernel_rfl) (show Try.prog.cellsOf 24 = 2 from by kernel_rfl) ⟨1, by simp [DataW.trod, Try.underlying22, w1_0]⟩ ⟨1, by simp [DataW.trod, Try.underlying22, w1_1]⟩
 exact ⟨_, rfl, _, _, _, [], _, [], hW', trodAll_mk1 (shut_bool Try.underlying4 _), (trodAll_cons_mk (rdP0 _) (trodAll_cons_mk (rdP1 _) trodAll_mk0)), rfl, bel.frame _, fun h => by cases h⟩
theorem over : Rows.wideTellsRow.holds Try.pinned (OpenSpec.ofChange Rows.wideTellsSpec) :=
 OpenClaim.holds_of_wide 8 Try.f8 rfl rfl rfl rfl rfl rfl rfl ⟨rfl, rfl, rfl, rfl, rfl⟩ rfl rfl rfl rfl rfl (by kernel_rfl) Try.func8 (by kernel_rfl)
  (of_decide_eq_true (by kernel_rfl)) (by unfold Func.isWrapper; first | (rw [if_pos (by decide +kernel)]; kernel_rfl) | (rw [if_neg (by decide +kernel)]; exact ⟨rfl, rfl⟩))
  (fun os started H enc _ => lifted os started H enc)
theorem proved : Rows.WideTellsSaid := over
#print axioms proved
end Go.Proofs.Ytbpcehbcbcojiaa.wideTells
namespace Go.Proofs.Ytbpcehbcbcojiaa
theorem wideTells_holds : Rows.WideTellsSaid := wideTells.proved
end Go.Proofs.Ytbpcehbcbcojiaa
