/- wire's Reader: must, take. -/
import Derived.Test.YtjmcdnhbiamokaaRows
import Derived.Below
import Derived.WalkKit
import Derived.LoopTactic
import Derived.Outline
import Derived.Lib.Hide
import Derived.WalkLawsBesides
import Derived.Tactics
import Derived.Tactics2
import Derived.Defers
import Derived.Recover
import Derived.Laws.Pointers
import Derived.Laws.Rows
import Derived.Deep.RegionLaw
import Derived.StillTailTactics
import Derived.Laws.Strings2
import Derived.Test.YtjmcdnhbiamokaaWWords
namespace Go.Proofs.Ytjmcdnhbiamokaa
open Go.RowKit Go.Proofs.YtjmcdnhbiamokaaW.PrintWords
set_option linter.unusedVariables false
set_option linter.unusedSimpArgs false
abbrev lostP : PanicEntry := { v := .iface 65 (.agg #[]), recovered := false }
theorem must_yes (w : World) : Calls Try.prog 27 #[.bool true] w fun e w' => e = .returned (.tuple #[]) ∧ w = w' := by
  go_enter Try.func27, Try.ntmps27
  go_wp2
  simp [bodyPost, results, Try.results27]
theorem must_no (w : World) : Calls Try.prog 27 #[.bool false] w fun e w' => e = .panicked [lostP] ∧ w = w' := by
  go_enter Try.func27, Try.ntmps27
  go_wp2
  exact ⟨rfl, rfl, rfl⟩
/-- The reader's block: its text, its place, whether it is lost. -/
def RB (w : World) (g : Nat) (s : ByteArray) (at_ : Int) (lost : Bool) : Prop := w.heap[g]? = some (.cells #[.string s, .int .i64 at_, .bool lost] 48 (0, 0))
theorem RB.c0 {w : World} {g : Nat} {s : ByteArray} {a : Int} {l : Bool} (h : RB w g s a l) : w.cell? ⟨g, 0, none⟩ = some (.string s) := by unfold RB at h; simp [World.cell?, h]
theorem RB.c1 {w : World} {g : Nat} {s : ByteArray} {a : Int} {l : Bool} (h : RB w g s a l) : w.cell? ⟨g, 1, none⟩ = some (.int .i64 a) := by unfold RB at h; simp [World.cell?, h]
theorem RB.c2 {w : World} {g : Nat} {s : ByteArray} {a : Int} {l : Bool} (h : RB w g s a l) : w.cell? ⟨g, 2, none⟩ = some (.bool l) := by unfold RB at h; simp [World.cell?, h]
theorem RB.f {w : World} {g : Nat} {s : ByteArray} {a : Int} {l : Bool} (h : RB w g s a l) (k : Nat) : w.frozen? ⟨g, k, none⟩ = false := by unfold RB at h; simp [World.frozen?, h]
theorem take_no (g : Nat) (s : ByteArray) (a n : Int) (l : Bool) (w : World) (h : RB w g s a l) (h0 : 0 ≤ n) (ha : 0 ≤ a) (hs : a ≤ s.size) (hz : s.size ≤ 140737488351232) (hn : ¬ n ≤ (s.size : Int) - a) :
    Calls Try.prog 28 #[.pointer (some ⟨g, 0, none⟩), .int .i64 n] w fun e w' => e = .panicked [lostP] ∧ Drawn0 w w' := by
  have c0 := h.c0
  have c1 := h.c1
  clear h
  go_enter Try.func28, Try.ntmps28
  have hw : IntKind.i64.wrap ((s.size : Int) - a) = (s.size : Int) - a := by rw [IntKind.wrap_i64]; omega
  go_wp2_with (fail)
  go_still_tail 12, (by kernel_rfl)
  rw [decide_eq_false (show ¬ n ≤ (s.size : Int) - a by omega)]
  have D : Drawn0 w w.drew := ⟨⟨1, rfl⟩⟩
  change wpList _ _ _ _ _ w.drew
  generalize w.drew = w2 at *
  go_wp2_with (go_at_call 27; refine (must_no _).mono ?_; rintro e w' ⟨rfl, rfl⟩)
  exact ⟨rfl, rfl, D⟩
theorem take_yes (g : Nat) (s : ByteArray) (a n : Int) (l : Bool) (w : World) (h : RB w g s a l) (h0 : 0 ≤ n) (ha : 0 ≤ a) (hs : a ≤ s.size) (hz : s.size ≤ 140737488351232) (hn : n ≤ (s.size : Int) - a) :
    Calls Try.prog 28 #[.pointer (some ⟨g, 0, none⟩), .int .i64 n] w fun e w' => e = .returned (.string (s.extract a.toNat (a + n).toNat)) ∧ RB w' g s (a + n) l ∧ ∃ w2, Drawn0 w w2 ∧ Drawn0 (w2.setCell ⟨g, 1, none⟩ (.int .i64 (a + n))) w' := by
  have c0 := h.c0
  have c1 := h.c1
  have f1 := h.f 1
  have hR := Lib.hid h
  clear h
  go_enter Try.func28, Try.ntmps28
  have hw : IntKind.i64.wrap ((s.size : Int) - a) = (s.size : Int) - a := by rw [IntKind.wrap_i64]; omega
  have hw2 : IntKind.i64.wrap (a + n) = a + n := by rw [IntKind.wrap_i64]; omega
  have hw3 : IntKind.i64.wrap (a + n - n) = a := by rw [IntKind.wrap_i64]; omega
  go_wp2_with (fail)
  go_still_tail 12, (by kernel_rfl)
  have D : Drawn0 w w.drew := ⟨⟨1, rfl⟩⟩
  change wpList _ _ _ _ _ w.drew
  have c0' : w.drew.cell? ⟨g, 0, none⟩ = some (.string s) := c0
  have c1' : w.drew.cell? ⟨g, 1, none⟩ = some (.int .i64 a) := c1
  have f1' : w.drew.frozen? ⟨g, 1, none⟩ = false := f1
  generalize w.drew = w2 at *
  go_wp2_with (go_at_call 27; refine (must_yes _).mono ?_; rintro e w' ⟨rfl, rfl⟩)
  have c0'' : (w2.setCell ⟨g, 1, none⟩ (.int .i64 (a + n))).cell? ⟨g, 0, none⟩ = some (.string s) := by
    rw [World.cell?_setCell_other _ _ _ _ (by simp)]; exact c0'
  have c1'' : (w2.setCell ⟨g, 1, none⟩ (.int .i64 (a + n))).cell? ⟨g, 1, none⟩ = some (.int .i64 (a + n)) := World.cell?_setCell_same _ _ _ c1'
  have hR2 := Lib.hid (show RB (w2.setCell ⟨g, 1, none⟩ (.int .i64 (a + n))) g s (a + n) l by
    have h := hR.out
    obtain ⟨k, rfl⟩ := D.out
    have h2 : (w.drewN k).heap[g]? = some (.cells #[.string s, .int .i64 a, .bool l] 48 (0, 0)) := h
    rw [setCell_eq_setRow _ g 1 _ 48 (0, 0) _ h2]
    exact setRow_heap _ g _ _ 48 (0, 0) h2)
  obtain ⟨w3, hw3'⟩ : ∃ w3, w3 = w2.setCell ⟨g, 1, none⟩ (.int .i64 (a + n)) := ⟨_, rfl⟩
  rw [← hw3'] at c0'' c1'' hR2 ⊢
  have hw3'' := Lib.hid hw3'
  clear hw3' c0 c1 c0' c1' f1 f1'
  go_still_tail 14, (by kernel_rfl)
  have D3 : Drawn0 w3 w3.drew := ⟨⟨1, rfl⟩⟩
  change wpList _ _ _ _ _ w3.drew
  have hR3 := Lib.hid (show RB w3.drew g s (a + n) l from hR2.out)
  generalize w3.drew = w4 at *
  have hsl := run_slice_string (P := Try.prog) w4 9 s .i64 .i64 a (a + n) Try.underlying9 ha (by omega) (by omega)
  go_wp2
  rw [hsl]
  go_wp2
  go_ret
  refine ⟨rfl, hR3.out, w2, D, ?_⟩
  rw [← hw3''.out]; exact D3
end Go.Proofs.Ytjmcdnhbiamokaa
