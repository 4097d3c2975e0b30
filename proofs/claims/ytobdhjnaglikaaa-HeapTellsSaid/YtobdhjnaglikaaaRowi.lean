import Derived.Test.YtobdhjnaglikaaaQx0
import Derived.Deep.Slices
import Derived.ChangeArms
import Derived.WideShapes
namespace Go.Proofs.Ytobdhjnaglikaaa.Q
open Go.RowKit Go.Proofs.YtobdhjnaglikaaaW.PrintWords
set_option linter.unusedVariables false
def wfI (c : S25) : Prop := 0 ≤ c.f1 ∧ c.f1 < 18446744073709551616 ∧ 0 ≤ c.f2 ∧ c.f2 < 18446744073709551616
theorem wf_u64 {y : Int} (h : (Lit.int .u64 y).wf = true) : 0 ≤ y ∧ y < 18446744073709551616 := by
 simp [Lit.wf, IntKind.min, IntKind.max, IntKind.signed, IntKind.bits] at h
 omega
section
variable {H : Type} {enc : TypeId × Value → H} {W : World} {base : Nat} {spare : Nat → Bool} {held : Bool}
theorem item_of {fuel : Nat} {cs : List Value} {x : DataW H × List MemPlace} (h : DataW.trod enc Try.prog W base spare held fuel 25 cs = some x) :
  ∃ c : S25, cs = [.string c.f0, .int .u64 c.f1, .int .u64 c.f2] ∧ wfI c := by
 obtain ⟨xs, n, _, _, hl, hx, hf⟩ := DataW.trod_struct Try.underlying25 h
 rw [show Try.prog.cellsOf 25 = 3 from by kernel_rfl] at hl
 match cs, hl with
 | [u0, u1, u2], _ =>
  have c9 : Try.prog.cellsOf 9 = 1 := by kernel_rfl
  have c23 : Try.prog.cellsOf 23 = 1 := by kernel_rfl
  have h0 : DataW.trod enc Try.prog W base spare held n 9 (([u0, u1, u2].drop 0).take (Try.prog.cellsOf 9)) = xs[0]? := hf 0 _ rfl
  have h1 : DataW.trod enc Try.prog W base spare held n 23 (([u0, u1, u2].drop 1).take (Try.prog.cellsOf 23)) = xs[1]? := hf 1 _ rfl
  have h2 : DataW.trod enc Try.prog W base spare held n 23 (([u0, u1, u2].drop 2).take (Try.prog.cellsOf 23)) = xs[2]? := hf 2 _ rfl
  rw [c9] at h0
  rw [c23] at h1 h2
  have hx3 : xs.length = 3 := hx
  match xs, hx3 with
  | [y0, y1, y2], _ =>
   obtain ⟨s, g0, _, _⟩ := DataW.trod_string Try.underlying9 (show DataW.trod enc Try.prog W base spare held n 9 [u0] = some y0 from h0)
   obtain ⟨a, g1, _, w1⟩ := DataW.trod_int Try.underlying23 (show DataW.trod enc Try.prog W base spare held n 23 [u1] = some y1 from h1)
   obtain ⟨b, g2, _, w2⟩ := DataW.trod_int Try.underlying23 (show DataW.trod enc Try.prog W base spare held n 23 [u2] = some y2 from h2)
   have g0 := (List.cons.inj g0).1
   have g1 := (List.cons.inj g1).1
   have g2 := (List.cons.inj g2).1
   subst g0 g1 g2
   exact ⟨⟨s, a, b⟩, rfl, (wf_u64 w1).1, (wf_u64 w1).2, (wf_u64 w2).1, (wf_u64 w2).2⟩
theorem open_item {r : Reach} {b0 : Nat} {v : Value} {d : DataW H} {p : List MemPlace} (hv : Value.okWide Try.prog W r b0 25 v) (h : DataW.Trod enc Try.prog W base spare held 25 v d p) :
  ∃ c : S25, v = .agg #[.string c.f0, .int .u64 c.f1, .int .u64 c.f2] ∧ wfI c := by
 obtain ⟨cs, rfl, hsz⟩ := Go.WideShapes.okWide_struct Try.underlying25 hv
 obtain ⟨l⟩ := cs
 obtain ⟨fuel, hf⟩ := h
 obtain ⟨c, hc, hw⟩ := item_of hf
 have hl : l = [.string c.f0, .int .u64 c.f1, .int .u64 c.f2] := by simpa [Value.cells] using hc
 subst hl
 exact ⟨c, rfl, hw⟩
def itemAt (W : World) (a : Addr) (i : Nat) : S25 :=
 match W.cell? (a.add (i * 3)), W.cell? ((a.add (i * 3)).add 1), W.cell? ((a.add (i * 3)).add 2) with
 | some (.string s), some (.int _ x), some (.int _ y) => ⟨s, x, y⟩
 | _, _, _ => z25
theorem open_items {fuel : Nat} {A : Option Addr} {len cap : Nat} {x : DataW H × List MemPlace} (h : DataW.trod enc Try.prog W base spare held fuel 22 [.slice A len cap] = some x) :
  ∃ l : List S25, l.length = len ∧ Kd.C k25 W A l.length l ∧ l.length ≤ cap ∧ ∀ c ∈ l, wfI c := by
 rcases Go.Deep.open_slice Try.underlying22 h with ⟨hcs, _⟩ | ⟨a, len', cap', m, n, D, Pl, hcs, _, hl, hm, hmm, _, hx⟩
 ·
  simp at hcs
  obtain ⟨rfl, rfl, rfl⟩ := hcs
  exact ⟨[], rfl, ⟨rfl, by simp, fun h => absurd h (by simp)⟩, Nat.zero_le _, by simp⟩
 ·
  simp at hcs
  obtain ⟨rfl, rfl, rfl⟩ := hcs
  have hlm : len ≤ m := by rw [hmm]; split <;> omega
  rw [show Try.prog.cellsOf 25 = 3 from by kernel_rfl] at hx
  have each : ∀ i, i < len → W.cell? (a.add (i * 3)) = some (.string (itemAt W a i).f0) ∧ W.cell? ((a.add (i * 3)).add 1) = some (.int .u64 (itemAt W a i).f1) ∧ W.cell? ((a.add (i * 3)).add 2) = some (.int .u64 (itemAt W a i).f2) ∧ wfI (itemAt W a i) := by
   intro i hi
   obtain ⟨cs, hc, ht⟩ := hx i (by omega)
   obtain ⟨_, _, hat⟩ := World.cells?_some hc
   obtain ⟨c, rfl, hw⟩ := item_of ht
   have e0 : W.cell? (a.add (i * 3)) = some (.string c.f0) := by
    have := hat 0 (by omega)
    rwa [show (a.add (i * 3)).add 0 = a.add (i * 3) from rfl] at this
   have e1 : W.cell? ((a.add (i * 3)).add 1) = some (.int .u64 c.f1) := hat 1 (by omega)
   have e2 : W.cell? ((a.add (i * 3)).add 2) = some (.int .u64 c.f2) := hat 2 (by omega)
   have e : itemAt W a i = c := by unfold itemAt; rw [e0, e1, e2]
   rw [e]
   exact ⟨e0, e1, e2, hw⟩
  have hlen : ((List.range len).map (itemAt W a)).length = len := by rw [List.length_map, List.length_range]
  refine ⟨(List.range len).map (itemAt W a), hlen, ?_, by rw [hlen]; exact hl, ?_⟩
  ·
   refine ⟨rfl, by rw [hlen]; unfold maxLen at hm; omega, fun _ => ⟨a, rfl, fun j p hp => ?_⟩⟩
   have hj : j < len := by rw [← hlen]; exact (List.getElem?_eq_some_iff.1 hp).1
   rw [List.getElem?_map, List.getElem?_range hj] at hp
   obtain rfl := Option.some.inj hp
   refine ⟨_, rfl, k25_mk W _, fun q u hu => ?_⟩
   obtain ⟨e0, e1, e2, _⟩ := each j hj
   match q, hu with
   | 0, hu =>
    obtain rfl := Option.some.inj hu
    exact e0
   | 1, hu =>
    obtain rfl := Option.some.inj hu
    rw [← e1, Go.Deep.add_add]
    rfl
   | 2, hu =>
    obtain rfl := Option.some.inj hu
    rw [← e2, Go.Deep.add_add]
    rfl
   | q + 3, hu => simp at hu
  ·
   intro c hc
   obtain ⟨i, hi, rfl⟩ := List.mem_map.1 hc
   exact (each i (List.mem_range.1 hi)).2.2.2
end
end Go.Proofs.Ytobdhjnaglikaaa.Q
