/- wire's Reader.ask: the deferred closure. -/
import Derived.Test.YtjmcdnhbiamokaaRd
import Derived.Laws.NewBlocks
namespace Go.Proofs.Ytjmcdnhbiamokaa
open Go.RowKit Go.Proofs.YtjmcdnhbiamokaaW.PrintWords
set_option linter.unusedVariables false
set_option maxHeartbeats 2000000 in
theorem catch_idle (p0 p1 p2 : Addr) (w : World) :
    CallsD Try.prog 35 #[.pointer (some p0), .pointer (some p1), .pointer (some p2)] .returning w fun e u' w' => e = .returned (.tuple #[]) ∧ u' = .returning ∧ w' = w := by
  refine callsD_of_wpS Try.func35 rfl fun c₀ cs hu => ?_
  apply wpS_seq
  apply wpS_region
  simp [wpOpsS, go_sem, recoverD, hu, Try.ntmps35, Exit.thenS]
  rw [show (#[Value.pointer (some p0), Value.pointer (some p1), Value.pointer (some p2)] ++ (Array.replicate 16 undef).setIfInBounds 3 Value.nilIface) = #[Value.pointer (some p0), Value.pointer (some p1), Value.pointer (some p2), undef, undef, undef, Value.nilIface, undef, undef, undef, undef, undef, undef, undef, undef, undef, undef, undef, undef] from rfl]
  refine wpS_of_wp ?_
  go_wp2
  cases c₀
  simp_all [bodyPostS, results, Try.results35]
theorem lt_cell {w : World} {p : Addr} {v : Value} (h : w.cell? p = some v) : p.block < w.heap.size := by
  rcases Nat.lt_or_ge p.block w.heap.size with h1 | h1
  · exact h1
  · simp [World.cell?, Array.getElem?_eq_none h1] at h
theorem al_cell {w : World} (o : Obj) {p : Addr} (h : p.block < w.heap.size) : (w.alloc o).cell? p = w.cell? p := ((Below.refl w.heap.size w).alloc (Nat.le_refl _) o).cell h
/-- Of the blocks that were there just those in S may have turned; the streams are as they were. -/
structure Oth (S : Nat → Prop) (w w' : World) : Prop where
  os : w'.os = w.os
  tape : w'.tape = w.tape
  output : w'.output = w.output
  size : w.heap.size ≤ w'.heap.size
  block : ∀ k, k < w.heap.size → ¬ S k → w'.heap[k]? = w.heap[k]?
theorem Oth.refl (S : Nat → Prop) (w : World) : Oth S w w := ⟨rfl, rfl, rfl, Nat.le_refl _, fun _ _ _ => rfl⟩
theorem Oth.trans {S : Nat → Prop} {a b c : World} (h : Oth S a b) (k : Oth S b c) : Oth S a c :=
  ⟨k.os.trans h.os, k.tape.trans h.tape, k.output.trans h.output, Nat.le_trans h.size k.size, fun i hi hg => (k.block i (Nat.lt_of_lt_of_le hi h.size) hg).trans (h.block i hi hg)⟩
/-- What turns later may be what was made meanwhile. -/
theorem Oth.then {S T : Nat → Prop} {a b c : World} (h : Oth S a b) (k : Oth T b c) (hT : ∀ i, T i → S i ∨ a.heap.size ≤ i) : Oth S a c :=
  ⟨k.os.trans h.os, k.tape.trans h.tape, k.output.trans h.output, Nat.le_trans h.size k.size, fun i hi hg => (k.block i (Nat.lt_of_lt_of_le hi h.size) (fun ht => (hT i ht).elim hg (by omega))).trans (h.block i hi hg)⟩
theorem Oth.mono {S T : Nat → Prop} {a b : World} (h : Oth S a b) (hT : ∀ i, S i → T i ∨ a.heap.size ≤ i) : Oth T a b := (Oth.refl T a).then h hT
theorem Oth.drawn {S : Nat → Prop} {w w' : World} (h : Drawn0 w w') : Oth S w w' := by
  obtain ⟨k, rfl⟩ := h
  exact ⟨rfl, rfl, rfl, Nat.le_refl _, fun _ _ _ => rfl⟩
theorem Oth.alloc {S : Nat → Prop} {a w : World} (h : Oth S a w) (o : Obj) : Oth S a (w.alloc o) :=
  h.trans ⟨rfl, rfl, rfl, by simp, fun k hk _ => Below.heap_alloc _ _ _ hk⟩
theorem Oth.set {S : Nat → Prop} {a w : World} (h : Oth S a w) {p : Addr} (hp : S p.block ∨ a.heap.size ≤ p.block) (u : Value) : Oth S a (w.setCell p u) := by
  refine ⟨h.os, h.tape, h.output, by simp [World.setCell]; exact h.size, fun k hk hg => ?_⟩
  rw [Below.heap_setCell _ _ _ _ (by rintro rfl; exact hp.elim hg (by omega))]
  exact h.block k hk hg
theorem Oth.of_below {S : Nat → Prop} {w w' : World} (h : Below w.heap.size w w') : Oth S w w' := ⟨h.os, h.tape, h.output, h.size, fun k hk _ => h.block k hk⟩
theorem Oth.below {S : Nat → Prop} {B : Nat} {w w' : World} (h : Oth S w w') (hB : ∀ i, S i → B ≤ i) (hs : B ≤ w.heap.size) : Below B w w' :=
  ⟨h.os, h.tape, h.output, h.size, fun k hk => h.block k (by omega) (fun hS => by have := hB k hS; omega)⟩
theorem Oth.cell {S : Nat → Prop} {w w' : World} (h : Oth S w w') {p : Addr} {v : Value} (hp : ¬ S p.block) (hc : w.cell? p = some v) : w'.cell? p = some v := by
  rw [← hc]; exact World.cell?_of_block (w := w) (h.block p.block (lt_cell hc) hp)
theorem Oth.frozen {S : Nat → Prop} {w w' : World} (h : Oth S w w') {p : Addr} (hp : ¬ S p.block) (hl : p.block < w.heap.size) : w'.frozen? p = w.frozen? p :=
  World.frozen?_of_block (w := w) (h.block p.block hl hp)
theorem RB.alloc {w : World} {g : Nat} {s : ByteArray} {a : Int} {l : Bool} (h : RB w g s a l) (o : Obj) : RB (w.alloc o) g s a l := by
  have hg : g < w.heap.size := lt_cell h.c0
  show (w.alloc o).heap[g]? = _
  rw [Below.heap_alloc _ _ _ hg]; exact h
theorem RB.set1 {w : World} {g : Nat} {s : ByteArray} {a : Int} {l : Bool} (h : RB w g s a l) (b : Int) : RB (w.setCell ⟨g, 1, none⟩ (.int .i64 b)) g s b l := by
  have h2 : w.heap[g]? = some (.cells #[.string s, .int .i64 a, .bool l] 48 (0, 0)) := h
  rw [setCell_eq_setRow _ g 1 _ 48 (0, 0) _ h2]
  exact setRow_heap _ g _ _ 48 (0, 0) h2
theorem RB.set2 {w : World} {g : Nat} {s : ByteArray} {a : Int} {l : Bool} (h : RB w g s a l) (b : Bool) : RB (w.setCell ⟨g, 2, none⟩ (.bool b)) g s a b := by
  have h2 : w.heap[g]? = some (.cells #[.string s, .int .i64 a, .bool l] 48 (0, 0)) := h
  rw [setCell_eq_setRow _ g 2 _ 48 (0, 0) _ h2]
  exact setRow_heap _ g _ _ 48 (0, 0) h2
theorem RB.set {w : World} {g : Nat} {s : ByteArray} {a : Int} {l : Bool} (h : RB w g s a l) {p : Addr} (hp : p.block ≠ g) (u : Value) : RB (w.setCell p u) g s a l := by
  show (w.setCell p u).heap[g]? = _
  rw [Below.heap_setCell _ _ _ _ (Ne.symm hp)]; exact h
theorem RB.drawn {w w' : World} {g : Nat} {s : ByteArray} {a : Int} {l : Bool} (h : RB w g s a l) (D : Drawn0 w w') : RB w' g s a l := by
  obtain ⟨k, rfl⟩ := D; exact h
theorem RB.oth {w w' : World} {g : Nat} {S : Nat → Prop} {s : ByteArray} {a : Int} {l : Bool} (h : RB w g s a l) (D : Oth S w w') (hx : ¬ S g) : RB w' g s a l :=
  (D.block g (lt_cell h.c0) hx).trans h
set_option maxHeartbeats 2000000 in
theorem catch_lost (p0 p1 p2 : Addr) (g : Nat) (s : ByteArray) (a at_ : Int) (l ok : Bool) (w : World) (h0 : w.cell? p0 = some (.int .i64 at_)) (h1 : w.cell? p1 = some (.pointer (some ⟨g, 0, none⟩))) (h2 : w.cell? p2 = some (.bool ok)) (f2 : w.frozen? p2 = false) (hR : RB w g s a l) (n2 : p2.block ≠ g) :
    CallsD Try.prog 35 #[.pointer (some p0), .pointer (some p1), .pointer (some p2)] (.panicking [{ v := .iface 65 (.agg #[]), recovered := false }]) w fun e u' w' =>
      e = .returned (.tuple #[]) ∧ u' = .panicking [{ v := .iface 65 (.agg #[]), recovered := true }] ∧ w' = (((w.alloc (.cells #[] 65)).setCell ⟨g, 2, none⟩ (.bool true)).setCell ⟨g, 1, none⟩ (.int .i64 at_)).setCell p2 (.bool false) := by
  refine callsD_of_wpS Try.func35 rfl fun c₀ cs hu => ?_
  apply wpS_seq
  apply wpS_region
  simp [wpOpsS, go_sem, recoverD, hu, Try.ntmps35, Exit.thenS]
  rw [show (#[Value.pointer (some p0), Value.pointer (some p1), Value.pointer (some p2)] ++ (Array.replicate 16 undef).setIfInBounds 3 (Value.iface 65 (Value.agg #[]))) = #[Value.pointer (some p0), Value.pointer (some p1), Value.pointer (some p2), undef, undef, undef, Value.iface 65 (Value.agg #[]), undef, undef, undef, undef, undef, undef, undef, undef, undef, undef, undef, undef] from rfl]
  have hta : ∀ w : World, (Instr.typeAssert (.iface 65 (.agg #[])) 20 65 true).run Try.prog w = .ok (.tuple #[.agg #[], .bool true]) w := fun w => by kernel_rfl
  have O : Oth (· = g) w (w.alloc (.cells #[] 65)) := (Oth.refl _ w).alloc _
  have R2 := hR.alloc (.cells #[] 65)
  have R3 := R2.set2 true
  have a0 : (w.alloc (.cells #[] 65)).cell? p0 = some (.int .i64 at_) := by rw [al_cell _ (lt_cell h0)]; exact h0
  have a1 : (w.alloc (.cells #[] 65)).cell? p1 = some (.pointer (some ⟨g, 0, none⟩)) := by rw [al_cell _ (lt_cell h1)]; exact h1
  have b2 := R2.c2
  have bf := R2.f 2
  have b1 := R3.c1
  have bg := R3.f 1
  have d2 : (((w.alloc (.cells #[] 65)).setCell ⟨g, 2, none⟩ (.bool true)).setCell ⟨g, 1, none⟩ (.int .i64 at_)).cell? p2 = some (.bool ok) := by
    rw [World.cell?_setCell_other _ _ _ _ (by rintro rfl; exact n2 rfl), World.cell?_setCell_other _ _ _ _ (by rintro rfl; exact n2 rfl), al_cell _ (lt_cell h2)]; exact h2
  have df : (((w.alloc (.cells #[] 65)).setCell ⟨g, 2, none⟩ (.bool true)).setCell ⟨g, 1, none⟩ (.int .i64 at_)).frozen? p2 = false := by
    rw [Oth.frozen (S := (· = g)) (w := w) ((O.set (p := ⟨g, 2, none⟩) (.inl rfl) _).set (p := ⟨g, 1, none⟩) (.inl rfl) _) n2 (lt_cell h2)]; exact f2
  clear O R2 R3 h0 h1 h2 f2 hR
  refine wpS_of_wp ?_
  go_wp2
  cases c₀
  simp_all [bodyPostS, results, Try.results35]
end Go.Proofs.Ytjmcdnhbiamokaa
