/- slices.Repeat of one string, in the form that the print gives all others. -/
import Derived.Test.YtabfaoghacamlaaM2
import Derived.Test.YtabfaoghacamlaaRw
namespace Go.Proofs.Ytabfaoghacamlaa.Q
open Go.RowKit Go.Proofs.YtabfaoghacamlaaW.PrintWords Go.Proofs.YtabfaoghacamlaaW.PrintLast
set_option linter.unusedVariables false
def rep_.f (l0 : List ByteArray) (a1 : Int) : Option (List ByteArray) := if l0.length = 1 ∧ 1 ≤ a1 ∧ a1 ≤ 1024 then some (List.replicate a1.toNat (l0.getD 0 ByteArray.empty)) else none
theorem rep_.calls (A0 : Option Addr) (c0 : Nat) (l0 : List ByteArray) (a1 : Int) (r : List ByteArray) (w : World) (hr0 : Kd.C Kd.string w A0 l0.length l0) (hc0 : l0.length ≤ c0) (h : rep_.f l0 a1 = some r) :
    Calls Try.prog 21 #[.slice A0 l0.length c0, .int .i64 a1] w fun e w' => ∃ v0_ : Value, e = .returned (v0_) ∧ Kd.R Kd.string 9 w' w.heap.size (fun _ => True) v0_ r ∧ Below w.heap.size w w' := by
  unfold rep_.f at h
  split at h
  · rename_i hc
    obtain ⟨h0, h1, h2⟩ := hc
    obtain rfl := Option.some.inj h
    obtain ⟨n, rfl⟩ : ∃ n : Nat, a1 = n := ⟨a1.toNat, by omega⟩
    obtain ⟨ad, cs, rfl, hlen, hK, hcell⟩ := hr0.get_ ByteArray.empty (0 : Int) (by omega) (by omega)
    rw [Int.toNat_zero] at hK hcell
    rw [h0, Int.toNat_natCast]
    generalize l0.getD 0 ByteArray.empty = x at *
    obtain rfl : cs = [.string x] := hK
    have hc := hcell 0 _ rfl
    rw [show 0 * Kd.string.sz + 0 = 0 from rfl, show ad.add 0 = ad from rfl] at hc
    refine (rep_walk ad c0 x n w (by omega) (by omega) hc).mono ?_
    rintro e w' ⟨rfl, hg, hb⟩
    refine ⟨_, rfl, ?_, hb⟩
    have ho : w'.ownsRow w.heap.size 9 1 (.slice (some ⟨w.heap.size, 0, none⟩) n n) n ((List.replicate n x).map Value.string) := by
      refine ⟨by simp, .inr ⟨w.heap.size, n, _, rfl, Nat.le_refl _, hg, Nat.le_refl _, by unfold maxLen; omega, by simp, ?_⟩⟩
      simp
    have hz : (List.replicate n x).length = n := List.length_replicate
    rw [← hz] at ho
    rw [hz] at ho
    exact Kd.R_of_own (enc := Value.string) (h1 := fun _ => rfl) (by rw [List.length_replicate]; exact ho) (fun _ _ => trivial)
  · cases h
end Go.Proofs.Ytabfaoghacamlaa.Q
