import Derived.Test.YtbpcehbcbcojiaaAdd
namespace Go.Proofs.Ytbpcehbcbcojiaa
open Go.RowKit
set_option linter.unusedVariables false
set_option linter.unusedSimpArgs false
def cmpR (m n : Nat) : Int := if m < n then -1 else if n < m then 1 else 0
def VC (w : World) (g h l : Nat) : Prop := w.cell? ⟨g, 0, none⟩ = some (.int .u64 (h : Int)) ∧ w.cell? ⟨g, 1, none⟩ = some (.int .u64 (l : Int)) ∧ w.frozen? ⟨g, 0, none⟩ = false ∧ w.frozen? ⟨g, 1, none⟩ = false
theorem vc_below {W w1 : World} {g h l : Nat} (t : VC W g h l) (hb : Below W.heap.size W w1) : VC w1 g h l := by
 have l0 := World.block_lt_of_cell? W _ t.1
 have := bcell hb
 exact ⟨(this.1 g 0 l0).trans t.1, (this.1 g 1 l0).trans t.2.1, (this.2 g 0 l0).trans t.2.2.1, (this.2 g 1 l0).trans t.2.2.2⟩
theorem vc_alloc {w : World} {g h l : Nat} {o : Obj} (t : VC w g h l) : VC (w.alloc o) g h l := by
 have l0 := World.block_lt_of_cell? w _ t.1
 exact vc_below t ((Below.refl _ _).alloc (Nat.le_refl _) _)
theorem vc_lo {w : World} {g h l m : Nat} (t : VC w g h l) : VC (w.setCell ⟨g, 1, none⟩ (.int .u64 (m : Int))) g h m :=
 ⟨by rw [World.cell?_setCell_other _ _ _ _ (by intro x; injection x; contradiction)]; exact t.1, World.cell?_setCell_same _ _ _ t.2.1, by rw [World.frozen?_setCell]; exact t.2.2.1, by rw [World.frozen?_setCell]; exact t.2.2.2⟩
theorem vc_hi {w : World} {g h l m : Nat} (t : VC w g h l) : VC (w.setCell ⟨g, 0, none⟩ (.int .u64 (m : Int))) g m l :=
 ⟨World.cell?_setCell_same _ _ _ t.1, by rw [World.cell?_setCell_other _ _ _ _ (by intro x; injection x; contradiction)]; exact t.2.1, by rw [World.frozen?_setCell]; exact t.2.2.1, by rw [World.frozen?_setCell]; exact t.2.2.2⟩
theorem vc_other {w : World} {g k h l i : Nat} {x : Value} (hne : g ≠ k) (t : VC w k h l) : VC (w.setCell ⟨g, i, none⟩ x) k h l :=
 ⟨by rw [World.cell?_setCell_other _ _ _ _ (by intro x; injection x; contradiction)]; exact t.1, by rw [World.cell?_setCell_other _ _ _ _ (by intro x; injection x; contradiction)]; exact t.2.1, by rw [World.frozen?_setCell]; exact t.2.2.1, by rw [World.frozen?_setCell]; exact t.2.2.2⟩
def Two (w : World) (g h l : Nat) : Prop := w.cell? ⟨g, 0, none⟩ = some (.int .u64 (h : Int)) ∧ w.cell? ⟨g, 1, none⟩ = some (.int .u64 (l : Int))
theorem Two.below {W w1 : World} {g h l : Nat} (t : Two W g h l) (hb : Below W.heap.size W w1) : Two w1 g h l := by
 have l0 := World.block_lt_of_cell? W _ t.1
 have := bcell hb
 exact ⟨(this.1 g 0 l0).trans t.1, (this.1 g 1 l0).trans t.2⟩
end Go.Proofs.Ytbpcehbcbcojiaa
