/- SlotsHolds: each place has a key that came, and the Total is the weight of all; for all keys, weights and words. -/
import Derived.Test.YtabfaoghacamlaaRows
import Derived.Test.YtabfaoghacamlaaPureSlotsHolds
import Derived.WalkKit
import Derived.ProofKit
import Derived.OpenShut
import Derived.ShutString
import Derived.ChangeOld
import Derived.Below
import Derived.SizedLaws
import Derived.Deep.SlicePairs
namespace Go.Proofs.Ytabfaoghacamlaa.slotsHolds
open Go.ChangeShapes Go.WideShapes Go.ChangeAt Go.RowKit
open Go.ChangeMaps (open_string shut_string)
set_option linter.unusedVariables false
theorem own : ownKnob Try.prog.godebug = none := by kernel_rfl
theorem laidOut : laidOutB Try.prog = true := by kernel_rfl
def IsRow (k : IntKind) (w : World) (a : Option Addr) (len cap : Nat) (zs : List Int) : Prop :=
  (a = none ∧ len = 0 ∧ cap = 0 ∧ zs = []) ∨
  ∃ x, a = some x ∧ len ≤ cap ∧ cap ≤ maxLen ∧ zs.length = cap ∧ (∀ i, i < zs.length → w.cell? (x.add i) = some (.int k (zs.getD i 0))) ∧ ∀ n ∈ zs, (Lit.int k n).wf = true
open Go.Proofs.Ytabfaoghacamlaa.H
def strOf : Value → ByteArray
  | .string s => s
  | _ => ByteArray.empty
def intOf : Value → Int
  | .int _ x => x
  | _ => 0
set_option maxRecDepth 100000 in
theorem lifted (os : Os) (started : os.Started) (H : Type) (enc : TypeId × Value → H) :
    ReturnsInHanded {} Try.checked os 3 .any (Rows.slotsHoldsSpec.pre6 enc Try.prog Try.f3 Rows.slotsHoldsRow.domain false) (Rows.slotsHoldsSpec.post enc Try.prog Try.f3 false true false false) := by
  refine returnsInHanded_of_change_sized (C := Try.checked) own started (by kernel_rfl) Try.func3
    (ChangeSpec.witness6 (enc := enc) (C := Try.checked) false ⟨#[], #[.int .u8 0, .slice none 0 0, .slice none 0 0], []⟩ 8 (by kernel_rfl) (by kernel_rfl) (by kernel_rfl) (by kernel_rfl)) ?_
  intro W base args ds gs before hval0 hW hcnd hsz0 _
  have hval : ∀ (j : Nat) t v, Try.f3.params[j]? = some t → args[j]? = some v → Value.okWide Try.prog W .any base t v := hval0
  have hW' := hW
  obtain ⟨p, q, hA0, hV, rfl, hfz, hnd⟩ := hW
  have hA : DataW.TrodAll enc Try.prog W 0 (fun _ => true) true Try.f3.params.toList args.toList ds p := hA0
  rw [Try.params3] at hA hval
  obtain ⟨v0, vs0, d0, ds0, p0, q0, hargs, rfl, rfl, h0, r0⟩ := trodAll_cons hA
  obtain ⟨v1, vs1, d1, ds1, p1, q1, rfl, rfl, rfl, h1, r1⟩ := trodAll_cons r0
  obtain ⟨v2, vs2, d2, ds2, p2, q2, rfl, rfl, rfl, h2, r2⟩ := trodAll_cons r1
  obtain ⟨rfl, rfl, rfl⟩ := trodAll_nil r2
  obtain rfl : args = #[v0, v1, v2] := by cases args; simp_all
  obtain ⟨rfl, rfl⟩ := trodVars_none hV
  obtain ⟨a0, rfl, rfl, rfl, w0⟩ := open_int Try.underlying5 (hval 0 5 v0 rfl rfl) h0
  obtain ⟨a1, len1, cap1, rfl⟩ := okWide_slice Try.underlying22 (hval 1 22 v1 rfl rfl)
  have k1 := h1
  have lt1 : ∀ x ∈ p1, x.block < W.heap.size := by obtain ⟨m, hm⟩ := k1; exact DataW.trod_lt m _ _ _ hm
  obtain ⟨l1, rfl, w1, c1, f1⟩ : ∃ l : List S35, l.length = len1 ∧ Go.Proofs.YtabfaoghacamlaaW.PrintWords.Kd.C k35 W a1 l.length l ∧ l.length ≤ cap1 ∧ ∀ c ∈ l, 0 ≤ c.f1 := by
    obtain ⟨fuel, hf⟩ := h1
    rcases Go.Deep.open_slice_pairs Try.underlying22 Try.underlying35 (by kernel_rfl) rfl rfl (by kernel_rfl) (by kernel_rfl) hf with ⟨hcs, _⟩ | ⟨x, len, cap, m, n, V0, V1, D0, D1, P0, P1, hcs, _, hl, hm, hmm, _, hx⟩
    · simp [Value.cells] at hcs
      obtain ⟨rfl, rfl, rfl⟩ := hcs
      exact ⟨[], rfl, ⟨rfl, by simp, fun h => absurd h (by simp)⟩, Nat.zero_le _, by simp⟩
    · simp [Value.cells] at hcs
      obtain ⟨rfl, rfl, rfl⟩ := hcs
      have hmc : m = cap1 := by simpa using hmm
      have each : ∀ i, i < len1 → W.cell? (x.add (i * 2)) = some (.string (strOf (V0 i))) ∧ W.cell? (x.add (i * 2 + 1)) = some (.int .u64 (intOf (V1 i))) ∧ 0 ≤ intOf (V1 i) := by
        intro i hi
        obtain ⟨e0, e1, t0, t1⟩ := hx i (by omega)
        obtain ⟨s, g0, _, _⟩ := DataW.trod_string Try.underlying9 t0
        obtain ⟨y, g1, _, wy⟩ := DataW.trod_int Try.underlying24 t1
        have g0 := (List.cons.inj g0).1
        have g1 := (List.cons.inj g1).1
        rw [g0] at e0 ⊢
        rw [g1] at e1 ⊢
        refine ⟨e0, e1, ?_⟩
        simp [Lit.wf, IntKind.min, IntKind.max, IntKind.signed, IntKind.bits] at wy
        exact wy.1
      have hlen : ((List.range len1).map (fun i => (⟨strOf (V0 i), intOf (V1 i)⟩ : S35))).length = len1 := by rw [List.length_map, List.length_range]
      refine ⟨(List.range len1).map (fun i => ⟨strOf (V0 i), intOf (V1 i)⟩), hlen, ?_, by rw [hlen]; exact hl, ?_⟩
      · refine ⟨rfl, by rw [hlen]; unfold maxLen at hm; omega, fun _ => ⟨x, rfl, fun j p hp => ?_⟩⟩
        have hj : j < len1 := by rw [← hlen]; exact (List.getElem?_eq_some_iff.1 hp).1
        rw [List.getElem?_map, List.getElem?_range hj] at hp
        obtain rfl := Option.some.inj hp
        refine ⟨_, rfl, k35_mk W _, fun q u hu => ?_⟩
        obtain ⟨e0, e1, _⟩ := each j hj
        match q, hu with
        | 0, hu =>
          obtain rfl := Option.some.inj hu
          exact e0
        | 1, hu =>
          obtain rfl := Option.some.inj hu
          exact e1
        | q + 2, hu => simp at hu
      · intro c hc
        obtain ⟨i, hi, rfl⟩ := List.mem_map.1 hc
        exact (each i (List.mem_range.1 hi)).2.2
  obtain ⟨a2, len2, cap2, rfl⟩ := okWide_slice Try.underlying23 (hval 2 23 v2 rfl rfl)
  have k2 := h2
  have lt2 : ∀ x ∈ p2, x.block < W.heap.size := by obtain ⟨m, hm⟩ := k2; exact DataW.trod_lt m _ _ _ hm
  obtain ⟨z2, w2⟩ : ∃ zs, IsRow .u64 W a2 len2 cap2 zs := by
    obtain ⟨fuel, hf⟩ := h2
    rcases open_ints Try.underlying23 Try.underlying24 (by kernel_rfl) hf with ⟨hcs, _⟩ | ⟨x, l, c, zs, hcs, _, hl, hm, hz, _, hcell, hwz⟩
    · simp [Value.cells] at hcs
      obtain ⟨rfl, rfl, rfl⟩ := hcs
      exact ⟨[], .inl ⟨rfl, rfl, rfl, rfl⟩⟩
    · simp [Value.cells] at hcs
      obtain ⟨rfl, rfl, rfl⟩ := hcs
      exact ⟨zs, .inr ⟨_, rfl, hl, hm, by simpa using hz, hcell, hwz⟩⟩
  clear hA0 hval0 hsz0
  refine (slotsHolds_walk a0 a1 cap1 l1 a2 len2 cap2 z2 W w0 w1 c1 f1 w2).mono fun e W' ⟨he, bel⟩ => ?_
  subst he
  exact ⟨_, rfl, _, _, _, [], _, [], hW', trodAll_mk1 (shut_bool Try.underlying4 _), (trodAll_cons_mk (shut_int Try.underlying5 w0) (trodAll_cons_mk (Below.trod laidOut (by kernel_rfl) (of_decide_eq_true (by kernel_rfl)) k1 bel lt1) (trodAll_cons_mk (Below.trod laidOut (by kernel_rfl) (of_decide_eq_true (by kernel_rfl)) k2 bel lt2) trodAll_mk0))), rfl, bel.frame _, fun h => by cases h⟩
theorem over : Rows.slotsHoldsRow.holds Try.pinned (OpenSpec.ofChange Rows.slotsHoldsSpec) :=
  OpenClaim.holds_of_wide 3 Try.f3 rfl rfl rfl rfl rfl rfl rfl ⟨rfl, rfl, rfl, rfl, rfl⟩ rfl rfl rfl rfl rfl (by kernel_rfl) Try.func3 (by kernel_rfl)
    (of_decide_eq_true (by kernel_rfl)) (by unfold Func.isWrapper; first | (rw [if_pos (by decide +kernel)]; kernel_rfl) | (rw [if_neg (by decide +kernel)]; exact ⟨rfl, rfl⟩))
    (fun os started H enc _ => lifted os started H enc)
theorem proved : Rows.SlotsHoldsSaid := over
#print axioms proved
end Go.Proofs.Ytabfaoghacamlaa.slotsHolds
namespace Go.Proofs.Ytabfaoghacamlaa
/-- The row, under a short name, for the claim. -/
theorem slotsHolds_holds : Rows.SlotsHoldsSaid := slotsHolds.proved
end Go.Proofs.Ytabfaoghacamlaa
