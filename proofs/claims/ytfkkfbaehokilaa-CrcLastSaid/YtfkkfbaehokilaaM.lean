/- The functions of crc that hold arrays, each against a plain function, in the form that the print gives all others: crc.More, crc.Sum, and the fixed answer 'awake', that is true. -/
import Derived.Test.YtfkkfbaehokilaaMore
namespace Go.Proofs.Ytfkkfbaehokilaa
open Go.RowKit

theorem run_index_tab (k : IntKind) (i : Nat) (h : i < 256) (w : World) : (Instr.index 26 (.agg (tabA 256)) (.int k i)).run Try.prog w = .ok (.int .u32 (CrcPure.tab i : Nat)) w := by
  have hg := tabA_get 256 i h (by omega)
  simp [Instr.index, go_sem]
  rw [if_pos h, hg]; simp [go_sem]

theorem sum_digits : CrcPure.more 0 (bs ⟨#[49, 50, 51, 52, 53, 54, 55, 56, 57]⟩) = 3808858755 := by decide +kernel
theorem sum_none : CrcPure.more 0 (bs ⟨#[]⟩) = 0 := by decide
theorem tab_one : CrcPure.tab 1 = 4067132163 := by decide

set_option maxRecDepth 100000 in
set_option maxHeartbeats 1000000 in
theorem awake_any (w : World) : Calls Try.prog 9 #[] w fun e w' => e = .returned (.bool true) ∧ Below w.heap.size w w' := by
  have hi : ∀ w : World, (Instr.index 26 (.agg (tabA 256)) (.int .i64 1)).run Try.prog w = .ok (.int .u32 4067132163) w := by
    intro w
    have h := run_index_tab .i64 1 (by decide) w
    rw [tab_one] at h
    exact h
  go_enter Try.func9, Try.ntmps9
  go_wp2_with (fail)
  refine (sum_any _ (by decide) _).mono ?_
  rintro e w1 ⟨rfl, hb1⟩
  rw [sum_digits]
  go_wp2_with (fail)
  refine (sum_any _ (by decide) _).mono ?_
  rintro e w2 ⟨rfl, hb2⟩
  rw [sum_none]
  go_wp2_with (fail)
  refine (table_any _).mono ?_
  rintro e w3 ⟨rfl, hb3⟩
  go_wp2
  go_ret
  exact ⟨rfl, (hb1.trans (hb2.mono hb1.size)).trans (hb3.mono (Nat.le_trans hb1.size hb2.size))⟩

namespace Q
def crc_More.f (a0 : Int) (a1 : ByteArray) : Option (Int) := if 0 ≤ a0 ∧ a0 < 4294967296 ∧ a1.size ≤ 140737488351232 then some (CrcPure.more a0.toNat (bs a1) : Nat) else none
theorem crc_More.calls (a0 : Int) (a1 : ByteArray) (r : Int) (w : World) (h : crc_More.f a0 a1 = some r) :
    Calls Try.prog 10 #[.int .u32 a0, .string a1] w fun e w' => e = .returned (.int .u32 r) ∧ Below w.heap.size w w' := by
  unfold crc_More.f at h
  split at h
  · rename_i hc
    obtain ⟨n, rfl⟩ : ∃ n : Nat, a0 = n := ⟨a0.toNat, by omega⟩
    obtain rfl := Option.some.inj h
    exact more_any n (by omega) a1 hc.2.2 w
  · cases h
def crc_Sum.f (a0 : ByteArray) : Option (Int) := if a0.size ≤ 140737488351232 then some (CrcPure.more 0 (bs a0) : Nat) else none
theorem crc_Sum.calls (a0 : ByteArray) (r : Int) (w : World) (h : crc_Sum.f a0 = some r) :
    Calls Try.prog 12 #[.string a0] w fun e w' => e = .returned (.int .u32 r) ∧ Below w.heap.size w w' := by
  unfold crc_Sum.f at h
  split at h
  · obtain rfl := Option.some.inj h
    exact sum_any a0 (by assumption) w
  · cases h
def samphirelaw06_awake.f : Option (Bool) := some true
theorem samphirelaw06_awake.calls (r : Bool) (w : World) (h : samphirelaw06_awake.f = some r) :
    Calls Try.prog 9 #[] w fun e w' => e = .returned (.bool r) ∧ Below w.heap.size w w' := by
  obtain rfl := Option.some.inj h
  exact awake_any w
end Q
end Go.Proofs.Ytfkkfbaehokilaa
