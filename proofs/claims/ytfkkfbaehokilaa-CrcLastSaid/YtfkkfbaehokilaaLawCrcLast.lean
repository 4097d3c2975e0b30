/- The row CrcLast: for any sum, text of at most 300 bytes, and four bytes each: the sums of the text with these behind it are alike just if the bytes are; longer texts get the fixed answer; no condition. -/
import Derived.Test.YtfkkfbaehokilaaRows
import Derived.Test.YtfkkfbaehokilaaLast
import Derived.WalkKit
import Derived.ProofKit
import Derived.OpenShut
import Derived.ShutString
import Derived.ChangeOld
import Derived.Below
import Derived.SizedLaws
namespace Go.Proofs.Ytfkkfbaehokilaa.crcLast
open Go.ChangeShapes Go.WideShapes Go.ChangeAt Go.RowKit
open Go.ChangeMaps (open_string shut_string)
set_option linter.unusedVariables false
set_option linter.unusedSimpArgs false
theorem own : ownKnob Try.prog.godebug = none := by kernel_rfl
set_option maxRecDepth 100000 in
theorem lifted (os : Os) (started : os.Started) (H : Type) (enc : TypeId × Value → H) :
    ReturnsInHanded {} Try.checked os 6 .any (Rows.crcLastSpec.pre6 enc Try.prog Try.f6 Rows.crcLastRow.domain false) (Rows.crcLastSpec.post enc Try.prog Try.f6 false true false false) := by
  refine returnsInHanded_of_change_sized (C := Try.checked) own started (by kernel_rfl) Try.func6
    (ChangeSpec.witness6 (enc := enc) (C := Try.checked) false ⟨#[], #[.int .u32 0, .string ByteArray.empty, .agg #[.int .u8 0, .int .u8 0, .int .u8 0, .int .u8 0], .agg #[.int .u8 0, .int .u8 0, .int .u8 0, .int .u8 0]], []⟩ 8 (by kernel_rfl) (by kernel_rfl) (by kernel_rfl) (by kernel_rfl)) ?_
  intro W base args ds gs before hval0 hW hcnd hsz0 _
  have hsz : (DataW.weightsEach Try.prog (Try.f6.params.toList ++ Rows.crcLastSpec.plain.varTypes Try.prog) (ds ++ gs)).all (· ≤ reachBytes) = true := hsz0
  have hval : ∀ (j : Nat) t v, Try.f6.params[j]? = some t → args[j]? = some v → Value.okWide Try.prog W .any base t v := hval0
  have hW' := hW
  obtain ⟨p, q, hA0, hV, rfl, hfz, hnd⟩ := hW
  have hA : DataW.TrodAll enc Try.prog W 0 (fun _ => true) true Try.f6.params.toList args.toList ds p := hA0
  rw [Try.params6] at hA hval hsz
  obtain ⟨v0, vs0, d0, ds0, p0, q0, hargs, rfl, rfl, h0, r0⟩ := trodAll_cons hA
  obtain ⟨v1, vs1, d1, ds1, p1, q1, rfl, rfl, rfl, h1, r1⟩ := trodAll_cons r0
  obtain ⟨v2, vs2, d2, ds2, p2, q2, rfl, rfl, rfl, h2, r2⟩ := trodAll_cons r1
  obtain ⟨v3, vs3, d3, ds3, p3, q3, rfl, rfl, rfl, h3, r3⟩ := trodAll_cons r2
  obtain ⟨rfl, rfl, rfl⟩ := trodAll_nil r3
  obtain rfl : args = #[v0, v1, v2, v3] := by cases args; simp_all
  obtain ⟨rfl, rfl⟩ := trodVars_none hV
  obtain ⟨a0, rfl, rfl, rfl, w0⟩ := open_int Try.underlying22 (hval 0 22 v0 rfl rfl) h0
  obtain ⟨a1, rfl, rfl, rfl, y1⟩ := open_string Try.underlying9 (hval 1 9 v1 rfl rfl) h1
  have w1 : a1.size ≤ 140737488351232 := by
    have z := sized_string hsz (j := 1) (t := 9) rfl rfl
    rw [Array.length_toList] at z
    exact z
  obtain ⟨cs2, rfl, hsz2, _⟩ : ∃ cs, v2 = .agg cs ∧ cs.size = Try.prog.cellsOf 34 ∧ Row.okWide Try.prog W .any base 34 cs := by
    have := hval 2 34 v2 rfl rfl
    simpa [Value.okWide, Try.underlying34] using this
  rw [show Try.prog.cellsOf 34 = 4 from by kernel_rfl] at hsz2
  obtain ⟨l2⟩ := cs2
  obtain ⟨c20, c21, c22, c23, rfl⟩ := list4v l2 hsz2
  obtain ⟨fuel2, hf2⟩ := h2
  obtain ⟨ya, yb, yc, yd, m, hx, hy0, hy1, hy2, hy3⟩ := trod_array4 Try.underlying34 (show Try.prog.cellsOf 5 = 1 from by kernel_rfl) hf2
  obtain ⟨a2_0, e0, rfl, w2_0⟩ := DataW.trod_int Try.underlying5 hy0
  obtain ⟨a2_1, e1, rfl, w2_1⟩ := DataW.trod_int Try.underlying5 hy1
  obtain ⟨a2_2, e2, rfl, w2_2⟩ := DataW.trod_int Try.underlying5 hy2
  obtain ⟨a2_3, e3, rfl, w2_3⟩ := DataW.trod_int Try.underlying5 hy3
  simp at e0 e1 e2 e3
  subst e0 e1 e2 e3
  simp only [Prod.mk.injEq] at hx
  obtain ⟨rfl, rfl⟩ := hx
  obtain ⟨cs3, rfl, hsz3, _⟩ : ∃ cs, v3 = .agg cs ∧ cs.size = Try.prog.cellsOf 34 ∧ Row.okWide Try.prog W .any base 34 cs := by
    have := hval 3 34 v3 rfl rfl
    simpa [Value.okWide, Try.underlying34] using this
  rw [show Try.prog.cellsOf 34 = 4 from by kernel_rfl] at hsz3
  obtain ⟨l3⟩ := cs3
  obtain ⟨c30, c31, c32, c33, rfl⟩ := list4v l3 hsz3
  obtain ⟨fuel3, hf3⟩ := h3
  obtain ⟨ya, yb, yc, yd, m, hx, hy0, hy1, hy2, hy3⟩ := trod_array4 Try.underlying34 (show Try.prog.cellsOf 5 = 1 from by kernel_rfl) hf3
  obtain ⟨a3_0, e0, rfl, w3_0⟩ := DataW.trod_int Try.underlying5 hy0
  obtain ⟨a3_1, e1, rfl, w3_1⟩ := DataW.trod_int Try.underlying5 hy1
  obtain ⟨a3_2, e2, rfl, w3_2⟩ := DataW.trod_int Try.underlying5 hy2
  obtain ⟨a3_3, e3, rfl, w3_3⟩ := DataW.trod_int Try.underlying5 hy3
  simp at e0 e1 e2 e3
  subst e0 e1 e2 e3
  simp only [Prod.mk.injEq] at hx
  obtain ⟨rfl, rfl⟩ := hx
  clear hA0 hval0 hsz0 hsz
  refine (crcLast_walk a0 a1 a2_0 a2_1 a2_2 a2_3 a3_0 a3_1 a3_2 a3_3 W w0 w1 w2_0 w2_1 w2_2 w2_3 w3_0 w3_1 w3_2 w3_3).mono fun e W' ⟨he, bel⟩ => ?_
  subst he
  have rdA2 : ∀ sp : Nat → Bool, DataW.Trod enc Try.prog W' 0 sp true 34 (.agg #[.int .u8 a2_0, .int .u8 a2_1, .int .u8 a2_2, .int .u8 a2_3]) (DataW.agg [.lit (.int .u8 a2_0), .lit (.int .u8 a2_1), .lit (.int .u8 a2_2), .lit (.int .u8 a2_3)]) [] := fun sp => ⟨2, by simp [DataW.trod, Value.cells, Try.underlying34, Try.underlying5, show Try.prog.cellsOf 34 = 4 from by kernel_rfl, show Try.prog.cellsOf 5 = 1 from by kernel_rfl, w2_0, w2_1, w2_2, w2_3, show List.range 4 = [0, 1, 2, 3] from rfl]⟩
  have rdA3 : ∀ sp : Nat → Bool, DataW.Trod enc Try.prog W' 0 sp true 34 (.agg #[.int .u8 a3_0, .int .u8 a3_1, .int .u8 a3_2, .int .u8 a3_3]) (DataW.agg [.lit (.int .u8 a3_0), .lit (.int .u8 a3_1), .lit (.int .u8 a3_2), .lit (.int .u8 a3_3)]) [] := fun sp => ⟨2, by simp [DataW.trod, Value.cells, Try.underlying34, Try.underlying5, show Try.prog.cellsOf 34 = 4 from by kernel_rfl, show Try.prog.cellsOf 5 = 1 from by kernel_rfl, w3_0, w3_1, w3_2, w3_3, show List.range 4 = [0, 1, 2, 3] from rfl]⟩
  exact ⟨_, rfl, _, _, _, [], _, [], hW', trodAll_mk1 (shut_bool Try.underlying4 _), (trodAll_cons_mk (shut_int Try.underlying22 w0) (trodAll_cons_mk (shut_string Try.underlying9 y1) (trodAll_cons_mk (rdA2 _) (trodAll_cons_mk (rdA3 _) trodAll_mk0)))), rfl, bel.frame _, fun h => by cases h⟩
theorem over : Rows.crcLastRow.holds Try.pinned (OpenSpec.ofChange Rows.crcLastSpec) :=
  OpenClaim.holds_of_wide 6 Try.f6 rfl rfl rfl rfl rfl rfl rfl ⟨rfl, rfl, rfl, rfl, rfl⟩ rfl rfl rfl rfl rfl (by kernel_rfl) Try.func6 (by kernel_rfl)
    (of_decide_eq_true (by kernel_rfl)) (by unfold Func.isWrapper; first | (rw [if_pos (by decide +kernel)]; kernel_rfl) | (rw [if_neg (by decide +kernel)]; exact ⟨rfl, rfl⟩))
    (fun os started H enc _ => lifted os started H enc)
theorem proved : Rows.CrcLastSaid := over
#print axioms proved
end Go.Proofs.Ytfkkfbaehokilaa.crcLast
namespace Go.Proofs.Ytfkkfbaehokilaa
/-- The row, under a short name, for the claim. -/
theorem crcLast_holds : Rows.CrcLastSaid := crcLast.proved
end Go.Proofs.Ytfkkfbaehokilaa
