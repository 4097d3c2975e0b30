import Derived.Test.YthgacimoifbhiaaRows
import Derived.Test.YthgacimoifbhiaaPureReserveTells
import Derived.WalkKit
import Derived.ProofKit
import Derived.OpenShut
import Derived.ShutString
import Derived.ChangeOld
import Derived.Below
import Derived.SizedLaws
import Derived.Lib.SmallJoins
import Derived.SliceStrings
namespace Go.Proofs.Ythgacimoifbhiaa.reserveTells
open Go.ChangeShapes Go.WideShapes Go.ChangeAt Go.RowKit
open Go.ChangeMaps (open_string shut_string)
set_option linter.unusedVariables false
set_option linter.unusedSimpArgs false
theorem own : ownKnob Try.prog.godebug = none := by kernel_rfl
set_option maxRecDepth 100000 in
theorem lifted (os : Os) (started : os.Started) (H : Type) (enc : TypeId × Value → H) :
  ReturnsInHanded {} Try.checked os 5 .any (Rows.reserveTellsSpec.pre6 enc Try.prog Try.f5 Rows.reserveTellsRow.domain false) (Rows.reserveTellsSpec.post enc Try.prog Try.f5 false true false false) := by
 refine returnsInHanded_of_change_sized (C := Try.checked) own started (by kernel_rfl) Try.func5
  (ChangeSpec.witness6 (enc := enc) (C := Try.checked) false ⟨#[], #[.agg #[.int .i64 0, .int .u64 0, .slice none 0 0], .agg #[.int .i64 0, .int .u64 0, .slice none 0 0], .string ByteArray.empty, .slice none 0 0, .int .i64 0], []⟩ 8 (by kernel_rfl) (by kernel_rfl) (by kernel_rfl) (by kernel_rfl)) ?_
 intro W base args ds gs before hval0 hW hcnd hsz0 _
 have hsz : (DataW.weightsEach Try.prog (Try.f5.params.toList ++ Rows.reserveTellsSpec.plain.varTypes Try.prog) (ds ++ gs)).all (· ≤ reachBytes) = true := hsz0
 have hval : ∀ (j : Nat) t v, Try.f5.params[j]? = some t → args[j]? = some v → Value.okWide Try.prog W .any base t v := hval0
 have hW' := hW
 obtain ⟨p, q, hA0, hV, rfl, hfz, hnd⟩ := hW
 have hA : DataW.TrodAll enc Try.prog W 0 (fun _ => true) true Try.f5.params.toList args.toList ds p := hA0
 rw [Try.params5] at hA hval hsz
 obtain ⟨v0, vs0, d0, ds0, p0, q0, hargs, rfl, rfl, h0, r0⟩ := trodAll_cons hA
 obtain ⟨v1, vs1, d1, ds1, p1, q1, rfl, rfl, rfl, h1, r1⟩ := trodAll_cons r0
 obtain ⟨v2, vs2, d2, ds2, p2, q2, rfl, rfl, rfl, h2, r2⟩ := trodAll_cons r1
 obtain ⟨v3, vs3, d3, ds3, p3, q3, rfl, rfl, rfl, h3, r3⟩ := trodAll_cons r2
 obtain ⟨v4, vs4, d4, ds4, p4, q4, rfl, rfl, rfl, h4, r4⟩ := trodAll_cons r3
 obtain ⟨rfl, rfl, rfl⟩ := trodAll_nil r4
 obtain rfl : args = #[v0, v1, v2, v3, v4] := by cases args; simp_all
 obtain ⟨rfl, rfl⟩ := trodVars_none hV
 have k0 := h0
 have lt0 : ∀ x ∈ p0, x.block < W.heap.size := by obtain ⟨m, hm⟩ := k0; exact DataW.trod_lt m _ _ _ hm
 obtain ⟨c0_0, c0_1, c0_2, z0_0, z0_1, z0_2, m0, rfl, rfl, rfl, hy0_0, hy0_1, hy0_2⟩ := Go.Joins.open_agg3 Try.underlying26 (by kernel_rfl) (show Try.prog.cellsOf 26 = 3 from by kernel_rfl) (hval 0 26 v0 rfl rfl) h0
 obtain ⟨a0_0, e0_0, _, w0_0⟩ := DataW.trod_int Try.underlying3 hy0_0
 obtain ⟨a0_1, e0_1, _, w0_1⟩ := DataW.trod_int Try.underlying23 hy0_1
 simp at e0_0 e0_1
 subst e0_0 e0_1
 obtain ⟨a0, cap0, l0, rfl, w0, c0⟩ : ∃ (A : Option Addr) (cap : Nat) (l : List ByteArray), c0_2 = .slice A l.length cap ∧ Go.Proofs.YthgacimoifbhiaaW.PrintWords.Kd.C Go.Proofs.YthgacimoifbhiaaW.PrintWords.Kd.string W A l.length l ∧ l.length ≤ cap := by
  rcases open_strings Try.underlying24 Try.underlying9 (by kernel_rfl) hy0_2 with ⟨hcs, _⟩ | ⟨x, len, c, ss, hcs, _, hl, hm, hz, _, hcell, _⟩
  ·
   exact ⟨none, 0, [], (List.cons.inj hcs).1, ⟨rfl, by simp, fun h => absurd h (by simp)⟩, Nat.zero_le _⟩
  ·
   have hz' : ss.length = c := by simpa using hz
   have hlen : (ss.take len).length = len := by rw [List.length_take]; omega
   refine ⟨some x, c, ss.take len, by rw [hlen]; exact (List.cons.inj hcs).1, ?_, by omega⟩
   rw [hlen]
   refine ⟨hlen, by unfold maxLen at hm; omega, fun h0 => ⟨x, rfl, fun j p hp => ?_⟩⟩
   have hj : j < len := by rw [← hlen]; exact (List.getElem?_eq_some_iff.1 hp).1
   have e : ss.getD j ByteArray.empty = p := by
    rw [List.getElem?_take_of_lt hj] at hp
    rw [List.getD_eq_getElem?_getD, hp]; rfl
   refine ⟨[.string p], rfl, rfl, fun q u hu => ?_⟩
   cases q with
   | zero =>
    obtain rfl : Value.string p = u := by simpa using hu
    show W.cell? (x.add (j * 1 + 0)) = _
    rw [Nat.mul_one, Nat.add_zero, hcell j (by omega), e]
   | succ q => simp at hu
 have k1 := h1
 have lt1 : ∀ x ∈ p1, x.block < W.heap.size := by obtain ⟨m, hm⟩ := k1; exact DataW.trod_lt m _ _ _ hm
 obtain ⟨c1_0, c1_1, c1_2, z1_0, z1_1, z1_2, m1, rfl, rfl, rfl, hy1_0, hy1_1, hy1_2⟩ := Go.Joins.open_agg3 Try.underlying26 (by kernel_rfl) (show Try.prog.cellsOf 26 = 3 from by kernel_rfl) (hval 1 26 v1 rfl rfl) h1
 obtain ⟨a1_0, e1_0, _, w1_0⟩ := DataW.trod_int Try.underlying3 hy1_0
 obtain ⟨a1_1, e1_1, _, w1_1⟩ := DataW.trod_int Try.underlying23 hy1_1
 simp at e1_0 e1_1
 subst e1_0 e1_1
 obtain ⟨a1, cap1, l1, rfl, w1, c1⟩ : ∃ (A : Option Addr) (cap : Nat) (l : List ByteArray), c1_2 = .slice A l.length cap ∧ Go.Proofs.YthgacimoifbhiaaW.PrintWords.Kd.C Go.Proofs.YthgacimoifbhiaaW.PrintWords.Kd.string W A l.length l ∧ l.length ≤ cap := by
  rcases open_strings Try.underlying24 Try.underlying9 (by kernel_rfl) hy1_2 with ⟨hcs, _⟩ | ⟨x, len, c, ss, hcs, _, hl, hm, hz, _, hcell, _⟩
  ·
   exact ⟨none, 0, [], (List.cons.inj hcs).1, ⟨rfl, by simp, fun h => absurd h (by simp)⟩, Nat.zero_le _⟩
  ·
   have hz' : ss.length = c := by simpa using hz
   have hlen : (ss.take len).length = len := by rw [List.length_take]; omega
   refine ⟨some x, c, ss.take len, by rw [hlen]; exact (List.cons.inj hcs).1, ?_, by omega⟩
   rw [hlen]
   refine ⟨hlen, by unfold maxLen at hm; omega, fun h0 => ⟨x, rfl, fun j p hp => ?_⟩⟩
   have hj : j < len := by rw [← hlen]; exact (List.getElem?_eq_some_iff.1 hp).1
   have e : ss.getD j ByteArray.empty = p := by
    rw [List.getElem?_take_of_lt hj] at hp
    rw [List.getD_eq_getElem?_getD, hp]; rfl
   refine ⟨[.string p], rfl, rfl, fun q u hu => ?_⟩
   cases q with
   | zero =>
    obtain rfl : Value.string p = u := by simpa using hu
    show W.cell? (x.add (j * 1 + 0)) = _
    rw [Nat.mul_one, Nat.add_zero, hcell j (by omega), e]
   | succ q => simp at hu
 obtain ⟨a2, rfl, rfl, rfl, y2⟩ := open_string Try.underlying9 (hval 2 9 v2 rfl rfl) h2
 have w2 : a2.size ≤ 140737488351232 := by
  have z := sized_string hsz (j := 2) (t := 9) rfl rfl
  rw [Array.length_toList] at z
  exact z
 obtain ⟨a3, len3, cap3, rfl⟩ := okWide_slice Try.underlying30 (hval 3 30 v3 rfl rfl)
 have k3 := h3
 have lt3 : ∀ x ∈ p3, x.block < W.heap.size := by obtain ⟨m, hm⟩ := k3; exact DataW.trod_lt m _ _ _ hm
 obtain ⟨l3, rfl, w3, c3, f3⟩ : ∃ l : List Int, l.length = len3 ∧ Go.Proofs.YthgacimoifbhiaaW.PrintWords.Kd.C (Go.Proofs.YthgacimoifbhiaaW.PrintWords.Kd.int .u64) W a3 l.length l ∧ l.length ≤ cap3 ∧ ∀ x ∈ l, (Lit.int .u64 x).wf = true := by
  obtain ⟨fuel, hf⟩ := h3
  rcases open_ints Try.underlying30 Try.underlying23 (by kernel_rfl) hf with ⟨hcs, _⟩ | ⟨x, l, c, ss, hcs, _, hl, hm, hz, _, hcell, hwz⟩
  ·
   simp [Value.cells] at hcs
   obtain ⟨rfl, rfl, rfl⟩ := hcs
   exact ⟨[], rfl, ⟨rfl, by simp, fun h => absurd h (by simp)⟩, Nat.zero_le _, by simp⟩
  ·
   simp [Value.cells] at hcs
   obtain ⟨rfl, rfl, rfl⟩ := hcs
   have hz' : ss.length = cap3 := by simpa using hz
   have hlen : (ss.take len3).length = len3 := by rw [List.length_take]; omega
   refine ⟨ss.take len3, hlen, ?_, by omega, fun y hy => hwz y (List.mem_of_mem_take hy)⟩
   rw [hlen]
   refine ⟨hlen, by unfold maxLen at hm; omega, fun h0 => ⟨x, rfl, fun j p hp => ?_⟩⟩
   have hj : j < len3 := by rw [← hlen]; exact (List.getElem?_eq_some_iff.1 hp).1
   have e : ss.getD j 0 = p := by
    rw [List.getElem?_take_of_lt hj] at hp
    rw [List.getD_eq_getElem?_getD, hp]; rfl
   refine ⟨[.int .u64 p], rfl, rfl, fun q u hu => ?_⟩
   cases q with
   | zero =>
    obtain rfl : Value.int .u64 p = u := by simpa using hu
    show W.cell? (x.add (j * 1 + 0)) = _
    rw [Nat.mul_one, Nat.add_zero, hcell j (by omega), e]
   | succ q => simp at hu
 obtain ⟨a4, rfl, rfl, rfl, w4⟩ := open_int Try.underlying3 (hval 4 3 v4 rfl rfl) h4
 clear hA0 hval0 hsz0 hsz
 refine (Go.Proofs.Ythgacimoifbhiaa.Pure.reserveTells_walk a0_0 a0_1 a0 cap0 l0 a1_0 a1_1 a1 cap1 l1 a2 a3 cap3 l3 a4 W w0_0 w0_1 w0 c0 w1_0 w1_1 w1 c1 w2 w3 c3 f3 w4).mono fun e W' ⟨he, bel⟩ => ?_
 subst he
 exact ⟨_, rfl, _, _, _, [], _, [], hW', trodAll_mk1 (shut_bool Try.underlying4 _), (trodAll_cons_mk (Below.trod (by kernel_rfl) (by kernel_rfl) (of_decide_eq_true (by kernel_rfl)) k0 bel lt0) (trodAll_cons_mk (Below.trod (by kernel_rfl) (by kernel_rfl) (of_decide_eq_true (by kernel_rfl)) k1 bel lt1) (trodAll_cons_mk (shut_string Try.underlying9 y2) (trodAll_cons_mk (Below.trod (by kernel_rfl) (by kernel_rfl) (of_decide_eq_true (by kernel_rfl)) k3 bel lt3) (trodAll_cons_mk (shut_int Try.underlying3 w4) trodAll_mk0))))), rfl, bel.frame _, fun h => by cases h⟩
theorem over : Rows.reserveTellsRow.holds Try.pinned (OpenSpec.ofChange Rows.reserveTellsSpec) :=
 OpenClaim.holds_of_wide 5 Try.f5 rfl rfl rfl rfl rfl rfl rfl ⟨rfl, rfl, rfl, rfl, rfl⟩ rfl rfl rfl rfl rfl (by kernel_rfl) Try.func5 (by kernel_rfl)
  (of_decide_eq_true (by kernel_rfl)) (by unfold Func.isWrapper; first | (rw [if_pos (by decide +kernel)]; kernel_rfl) | (rw [if_neg (by decide +kernel)]; exact ⟨rfl, rfl⟩))
  (fun os started H enc _ => lifted os started H enc)
theorem proved : Rows.ReserveTellsSaid := over
#print axioms proved
end Go.Proofs.Ythgacimoifbhiaa.reserveTells
namespace Go.Proofs.Ythgacimoifbhiaa
theorem reserveTells_holds : Rows.ReserveTellsSaid := reserveTells.proved
end Go.Proofs.Ythgacimoifbhiaa
