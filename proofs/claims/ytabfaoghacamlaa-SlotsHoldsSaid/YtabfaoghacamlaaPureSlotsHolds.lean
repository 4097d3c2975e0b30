/- SlotsHolds: the walk, for all keys, weights and words. -/
import Derived.Test.YtabfaoghacamlaaPureI
namespace Go.Proofs.Ytabfaoghacamlaa
open Go.RowKit Go.Proofs.Ytabfaoghacamlaa.H Go.Proofs.YtabfaoghacamlaaW.PrintWords Go.Proofs.YtabfaoghacamlaaW.PrintLast
set_option linter.unusedVariables false
theorem slotsHolds_walk (a0 : Int) (a1 : Option Addr) (cap1 : Nat) (l1 : List S35) (a2 : Option Addr) (len2 cap2 : Nat) (z2 : List Int) (w : World)
    (w0 : (Lit.int .u8 a0).wf = true) (w1 : Kd.C k35 w a1 l1.length l1) (c1 : l1.length ≤ cap1) (f1 : ∀ c ∈ l1, 0 ≤ c.f1)
    (w2 : (a2 = none ∧ len2 = 0 ∧ cap2 = 0 ∧ z2 = []) ∨ ∃ x, a2 = some x ∧ len2 ≤ cap2 ∧ cap2 ≤ maxLen ∧ z2.length = cap2 ∧ (∀ i, i < z2.length → w.cell? (x.add i) = some (.int .u64 (z2.getD i 0))) ∧ ∀ n ∈ z2, (Lit.int .u64 n).wf = true) :
    Calls Try.prog 3 #[.int .u8 a0, .slice a1 l1.length cap1, .slice a2 len2 cap2] w fun e w' => e = .returned (.bool true) ∧ Below w.heap.size w w' := by
  obtain ⟨l2, rfl, hr2, hm2, hw2, hc2⟩ := ReadsInt.ofRowC w2
  have c2 := Kd.C_of_reads (d := (0 : Int)) (h1 := fun _ => rfl) hr2
  obtain ⟨xs, hxs⟩ := DrawH.words_of l2 hw2
  have h0 : 0 ≤ a0 ∧ a0 ≤ 255 := by
    simp [Lit.wf, IntKind.min, IntKind.max, IntKind.signed, IntKind.bits] at w0
    omega
  refine (samphirelaw17_SlotsHolds.calls 5000 a0 _ _ l1 (fun k => k < w.heap.size) _ _ l2 true w w1 c1 (Kd.V_mk hc2 (Kd.C_F (Kd.heap_int _) c2)) (PureH.holds_f a0 h0.1 h0.2 hxs l1 f1)).mono ?_
  rintro e w' ⟨rfl, hd⟩
  exact ⟨rfl, hd⟩
end Go.Proofs.Ytabfaoghacamlaa
