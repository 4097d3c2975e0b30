/- The walk of the law CrcTells: the table, and the sum of any text behind any other one, are the document's. -/
import Derived.Test.YtfkkfbaehokilaaRef
import Derived.Deep.RegionWith
import Derived.OpenShut
namespace Go.Proofs.Ytfkkfbaehokilaa
open Go.RowKit

theorem bt {a b c : World} (h : Below a.heap.size a b) (k : Below b.heap.size b c) : Below a.heap.size a c := h.trans (k.mono h.size)
theorem bdrew {a b : World} (h : Below a.drew.heap.size a.drew b) : Below a.heap.size a b := ⟨h.os, h.tape, h.output, h.size, h.block⟩

set_option maxRecDepth 100000 in
set_option maxHeartbeats 600000 in
theorem crcTells_any (s : Nat) (hs : s < 4294967296) (t : ByteArray) (ht : t.size ≤ 140737488351232) (i : Nat) (hi : i < 256) (w : World) :
    Calls Try.prog 3 #[.int .u32 s, .string t, .int .u8 i] w fun e w' => e = .returned (.bool true) ∧ Below w.heap.size w w' := by
  by_cases hl : (600 : Int) < (t.size : Int)
  · go_enter Try.func3, Try.ntmps3
    go_wp2_with (fail)
    refine (awake_any _).mono ?_
    rintro e w1 ⟨rfl, hb⟩
    go_wp2
    go_ret
    exact ⟨rfl, hb⟩
  · have hl2 : decide ((600 : Int) < (t.size : Int)) = false := decide_eq_false hl
    have hx : ∀ w : World, (Instr.index 26 (.agg (tabA 256)) (.int .u8 i)).run Try.prog w = .ok (.int .u32 (CrcPure.tab i : Nat)) w := run_index_tab .u8 i hi
    have HM := @more_any s hs t ht
    have HR := @refMore_any s hs t ht
    have HS := @sum_any t ht
    have HZ : ∀ w : World, Calls Try.prog 11 #[.int .u32 0, .string t] w fun e w' => e = .returned (.int .u32 (CrcPure.more 0 (bs t) : Nat)) ∧ w = w' := @refMore_any 0 (by omega) t ht
    have HA := refAt_any i hi
    generalize CrcPure.more s (bs t) = m at *
    generalize CrcPure.more 0 (bs t) = n at *
    generalize CrcPure.tab i = ti at *
    have HM := Lib.hid HM; have HR := Lib.hid HR; have HS := Lib.hid HS; have HZ := Lib.hid HZ; have HA := Lib.hid HA
    have hwr : IntKind.i64.wrap (i : Int) = i := by rw [IntKind.wrap_i64]; omega
    go_enter Try.func3, Try.ntmps3
    go_wp2_with (fail)
    go_region_with (first
      | (go_at_call 10; refine (HM.out _).mono ?_; rintro e w' ⟨rfl, hb⟩)
      | (go_at_call 12; refine (HS.out _).mono ?_; rintro e w' ⟨rfl, hb⟩)
      | (go_at_call_of 11 (Value.int IntKind.u32 (s : Int)); refine (HR.out _).mono ?_; rintro e w' ⟨rfl, rfl⟩)
      | (go_at_call 11; refine (HZ.out _).mono ?_; rintro e w' ⟨rfl, rfl⟩)
      | (go_at_call 13; refine (table_any _).mono ?_; rintro e w' ⟨rfl, hb⟩)
      | (go_at_call 14; refine (HA.out _).mono ?_; rintro e w' ⟨rfl, rfl⟩)
      | (go_at_call 9; refine (awake_any _).mono ?_; rintro e w' ⟨rfl, hb⟩))
    all_goals
      go_wp2
      go_ret
      refine ⟨rfl, ?_⟩
      repeat (first | assumption | exact bdrew (by assumption) | refine bt ?_ (by assumption))
theorem crcTells_walk (a0 : Int) (a1 : ByteArray) (a2 : Int) (w : World) (w0 : (Lit.int .u32 a0).wf = true) (w1 : a1.size ≤ 140737488351232) (w2 : (Lit.int .u8 a2).wf = true) :
    Calls Try.prog 3 #[.int .u32 a0, .string a1, .int .u8 a2] w fun e w' => e = .returned (.bool true) ∧ Below w.heap.size w w' := by
  have b0 := bounds_u32 w0
  have b2 := bounds_u8 w2
  obtain ⟨s, rfl⟩ : ∃ i : Nat, a0 = i := ⟨a0.toNat, by omega⟩
  obtain ⟨k, rfl⟩ : ∃ i : Nat, a2 = i := ⟨a2.toNat, by omega⟩
  exact crcTells_any s (by omega) a1 w1 k (by omega) w
end Go.Proofs.Ytfkkfbaehokilaa
