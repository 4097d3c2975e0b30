/- ReserveHolds: reservoirs to which keys came, and that are merged, have as many as came, or K, each of them came, and none more often than it came; for every input; no condition. -/
import Derived.Test.YthgacimoifbhiaaRows
import Derived.Test.YthgacimoifbhiaaPureReserveHoldsB
import Derived.WalkKit
import Derived.ProofKit
import Derived.OpenShut
import Derived.ShutString
import Derived.ChangeOld
import Derived.Below
import Derived.SizedLaws
import Derived.Lib.SmallJoins
import Derived.SliceStrings
namespace Go.Proofs.Ythgacimoifbhiaa.reserveHolds
open Go.ChangeShapes Go.WideShapes Go.ChangeAt Go.RowKit
open Go.ChangeMaps (open_string shut_string)
set_option linter.unusedVariables false
set_option linter.unusedSimpArgs false
theorem own : ownKnob Try.prog.godebug = none := by kernel_rfl
set_option maxRecDepth 100000 in
theorem lifted (os : Os) (started : os.Started) (H : Type) (enc : TypeId × Value → H) :
    ReturnsInHanded {} Try.checked os 6 .any (Rows.reserveHoldsSpec.pre6 enc Try.prog Try.f6 Rows.reserveHoldsRow.domain false) (Rows.reserveHoldsSpec.post enc Try.prog Try.f6 false true false false) := by
  refine returnsInHanded_of_change_sized (C := Try.checked) own started (by kernel_rfl) Try.func6
    (ChangeSpec.witness6 (enc := enc) (C := Try.checked) false ⟨#[], #[.int .u8 0, .slice none 0 0, .slice none 0 0, .slice none 0 0], []⟩ 8 (by kernel_rfl) (by kernel_rfl) (by kernel_rfl) (by kernel_rfl)) ?_
  intro W base args ds gs before hval0 hW hcnd hsz0 _
  have hsz : (DataW.weightsEach Try.prog (Try.f6.params.toList ++ Rows.reserveHoldsSpec.plain.varTypes Try.prog) (ds ++ gs)).all (· ≤ reachBytes) = true := hsz0
  have hval : ∀ (j : Nat) t v, Try.f6.params[j]? = some t → args[j]? = some v → Value.okWide Try.prog W .any base t v := hval0
  have hW' := hW
  obtain ⟨p, q, hA0, hV, rfl, hfz, hnd⟩ := hW
  have hA : DataW.TrodAll enc Try.prog W 0 (fun _ => true) true Try.f6.params.toList args.toList ds p := hA0
  rw [Try.params6] at hA hval hsz
  obtain ⟨v0, vs0, d0, ds0, p0, q0, hargs, rfl, rfl, h0, r0⟩ := trodAll_cons hA
  obtain ⟨v1, vs1, d1, ds1, p1, q1, rfl, rfl, rfl, h1, r1⟩ := trodAll_cons r0
  obtain ⟨v2, vs2, d2, ds2, p2, q2, rfl, rfl, rfl, h2, r2⟩ := trodAll_cons r1
  obtain ⟨v3, vs3, d3, ds3, p3, q3, rfl, rfl, rfl, h3, r3⟩ := trodAll_cons r2
  obtain ⟨rfl, rfl, rfl⟩ := trodAll_nil r3
  obtain rfl : args = #[v0, v1, v2, v3] := by cases args; simp_all
  obtain ⟨rfl, rfl⟩ := trodVars_none hV
  obtain ⟨a0, rfl, rfl, rfl, w0⟩ := open_int Try.underlying5 (hval 0 5 v0 rfl rfl) h0
  obtain ⟨a1, len1, cap1, rfl⟩ := okWide_slice Try.underlying24 (hval 1 24 v1 rfl rfl)
  have k1 := h1
  have lt1 : ∀ x ∈ p1, x.block < W.heap.size := by obtain ⟨m, hm⟩ := k1; exact DataW.trod_lt m _ _ _ hm
  obtain ⟨l1, rfl, w1, c1⟩ : ∃ l : List ByteArray, l.length = len1 ∧ Go.Proofs.YthgacimoifbhiaaW.PrintWords.Kd.C Go.Proofs.YthgacimoifbhiaaW.PrintWords.Kd.string W a1 l.length l ∧ l.length ≤ cap1 := by
    obtain ⟨fuel, hf⟩ := h1
    rcases open_strings Try.underlying24 Try.underlying9 (by kernel_rfl) hf with ⟨hcs, _⟩ | ⟨x, l, c, ss, hcs, _, hl, hm, hz, _, hcell, _⟩
    · simp [Value.cells] at hcs
      obtain ⟨rfl, rfl, rfl⟩ := hcs
      exact ⟨[], rfl, ⟨rfl, by simp, fun h => absurd h (by simp)⟩, Nat.zero_le _⟩
    · simp [Value.cells] at hcs
      obtain ⟨rfl, rfl, rfl⟩ := hcs
      have hz' : ss.length = cap1 := by simpa using hz
      have hlen : (ss.take len1).length = len1 := by rw [List.length_take]; omega
      refine ⟨ss.take len1, hlen, ?_, by omega⟩
      rw [hlen]
      refine ⟨hlen, by unfold maxLen at hm; omega, fun h0 => ⟨x, rfl, fun j p hp => ?_⟩⟩
      have hj : j < len1 := by rw [← hlen]; exact (List.getElem?_eq_some_iff.1 hp).1
      have e : ss.getD j ByteArray.empty = p := by
        rw [List.getElem?_take_of_lt hj] at hp
        rw [List.getD_eq_getElem?_getD, hp]; rfl
      refine ⟨[.string p], rfl, rfl, fun q u hu => ?_⟩
      cases q with
      | zero =>
        obtain rfl : Value.string p = u := by simpa using hu
        show W.cell? (x.add (j * 1 + 0)) = _
        rw [Nat.mul_one, Nat.add_zero, hcell j (by omega), e]
      | succ q => simp at hu
  obtain ⟨a2, len2, cap2, rfl⟩ := okWide_slice Try.underlying24 (hval 2 24 v2 rfl rfl)
  have k2 := h2
  have lt2 : ∀ x ∈ p2, x.block < W.heap.size := by obtain ⟨m, hm⟩ := k2; exact DataW.trod_lt m _ _ _ hm
  obtain ⟨l2, rfl, w2, c2⟩ : ∃ l : List ByteArray, l.length = len2 ∧ Go.Proofs.YthgacimoifbhiaaW.PrintWords.Kd.C Go.Proofs.YthgacimoifbhiaaW.PrintWords.Kd.string W a2 l.length l ∧ l.length ≤ cap2 := by
    obtain ⟨fuel, hf⟩ := h2
    rcases open_strings Try.underlying24 Try.underlying9 (by kernel_rfl) hf with ⟨hcs, _⟩ | ⟨x, l, c, ss, hcs, _, hl, hm, hz, _, hcell, _⟩
    · simp [Value.cells] at hcs
      obtain ⟨rfl, rfl, rfl⟩ := hcs
      exact ⟨[], rfl, ⟨rfl, by simp, fun h => absurd h (by simp)⟩, Nat.zero_le _⟩
    · simp [Value.cells] at hcs
      obtain ⟨rfl, rfl, rfl⟩ := hcs
      have hz' : ss.length = cap2 := by simpa using hz
      have hlen : (ss.take len2).length = len2 := by rw [List.length_take]; omega
      refine ⟨ss.take len2, hlen, ?_, by omega⟩
      rw [hlen]
      refine ⟨hlen, by unfold maxLen at hm; omega, fun h0 => ⟨x, rfl, fun j p hp => ?_⟩⟩
      have hj : j < len2 := by rw [← hlen]; exact (List.getElem?_eq_some_iff.1 hp).1
      have e : ss.getD j ByteArray.empty = p := by
        rw [List.getElem?_take_of_lt hj] at hp
        rw [List.getD_eq_getElem?_getD, hp]; rfl
      refine ⟨[.string p], rfl, rfl, fun q u hu => ?_⟩
      cases q with
      | zero =>
        obtain rfl : Value.string p = u := by simpa using hu
        show W.cell? (x.add (j * 1 + 0)) = _
        rw [Nat.mul_one, Nat.add_zero, hcell j (by omega), e]
      | succ q => simp at hu
  obtain ⟨a3, len3, cap3, rfl⟩ := okWide_slice Try.underlying30 (hval 3 30 v3 rfl rfl)
  have k3 := h3
  have lt3 : ∀ x ∈ p3, x.block < W.heap.size := by obtain ⟨m, hm⟩ := k3; exact DataW.trod_lt m _ _ _ hm
  obtain ⟨l3, rfl, w3, c3, f3⟩ : ∃ l : List Int, l.length = len3 ∧ Go.Proofs.YthgacimoifbhiaaW.PrintWords.Kd.C (Go.Proofs.YthgacimoifbhiaaW.PrintWords.Kd.int .u64) W a3 l.length l ∧ l.length ≤ cap3 ∧ ∀ x ∈ l, (Lit.int .u64 x).wf = true := by
    obtain ⟨fuel, hf⟩ := h3
    rcases open_ints Try.underlying30 Try.underlying23 (by kernel_rfl) hf with ⟨hcs, _⟩ | ⟨x, l, c, ss, hcs, _, hl, hm, hz, _, hcell, hwz⟩
    · simp [Value.cells] at hcs
      obtain ⟨rfl, rfl, rfl⟩ := hcs
      exact ⟨[], rfl, ⟨rfl, by simp, fun h => absurd h (by simp)⟩, Nat.zero_le _, by simp⟩
    · simp [Value.cells] at hcs
      obtain ⟨rfl, rfl, rfl⟩ := hcs
      have hz' : ss.length = cap3 := by simpa using hz
      have hlen : (ss.take len3).length = len3 := by rw [List.length_take]; omega
      refine ⟨ss.take len3, hlen, ?_, by omega, fun y hy => hwz y (List.mem_of_mem_take hy)⟩
      rw [hlen]
      refine ⟨hlen, by unfold maxLen at hm; omega, fun h0 => ⟨x, rfl, fun j p hp => ?_⟩⟩
      have hj : j < len3 := by rw [← hlen]; exact (List.getElem?_eq_some_iff.1 hp).1
      have e : ss.getD j 0 = p := by
        rw [List.getElem?_take_of_lt hj] at hp
        rw [List.getD_eq_getElem?_getD, hp]; rfl
      refine ⟨[.int .u64 p], rfl, rfl, fun q u hu => ?_⟩
      cases q with
      | zero =>
        obtain rfl : Value.int .u64 p = u := by simpa using hu
        show W.cell? (x.add (j * 1 + 0)) = _
        rw [Nat.mul_one, Nat.add_zero, hcell j (by omega), e]
      | succ q => simp at hu
  clear hA0 hval0 hsz0 hsz
  refine (Go.Proofs.Ythgacimoifbhiaa.Pure.reserveHolds_walk a0 a1 cap1 l1 a2 cap2 l2 a3 cap3 l3 W w0 w1 c1 w2 c2 w3 c3 f3).mono fun e W' ⟨he, bel⟩ => ?_
  subst he
  exact ⟨_, rfl, _, _, _, [], _, [], hW', trodAll_mk1 (shut_bool Try.underlying4 _), (trodAll_cons_mk (shut_int Try.underlying5 w0) (trodAll_cons_mk (Below.trod (by kernel_rfl) (by kernel_rfl) (of_decide_eq_true (by kernel_rfl)) k1 bel lt1) (trodAll_cons_mk (Below.trod (by kernel_rfl) (by kernel_rfl) (of_decide_eq_true (by kernel_rfl)) k2 bel lt2) (trodAll_cons_mk (Below.trod (by kernel_rfl) (by kernel_rfl) (of_decide_eq_true (by kernel_rfl)) k3 bel lt3) trodAll_mk0)))), rfl, bel.frame _, fun h => by cases h⟩
theorem over : Rows.reserveHoldsRow.holds Try.pinned (OpenSpec.ofChange Rows.reserveHoldsSpec) :=
  OpenClaim.holds_of_wide 6 Try.f6 rfl rfl rfl rfl rfl rfl rfl ⟨rfl, rfl, rfl, rfl, rfl⟩ rfl rfl rfl rfl rfl (by kernel_rfl) Try.func6 (by kernel_rfl)
    (of_decide_eq_true (by kernel_rfl)) (by unfold Func.isWrapper; first | (rw [if_pos (by decide +kernel)]; kernel_rfl) | (rw [if_neg (by decide +kernel)]; exact ⟨rfl, rfl⟩))
    (fun os started H enc _ => lifted os started H enc)
theorem proved : Rows.ReserveHoldsSaid := over
#print axioms proved
end Go.Proofs.Ythgacimoifbhiaa.reserveHolds
namespace Go.Proofs.Ythgacimoifbhiaa
/-- The row, under a short name, for the claim. -/
theorem reserveHolds_holds : Rows.ReserveHoldsSaid := reserveHolds.proved
end Go.Proofs.Ythgacimoifbhiaa
