/- The walk of the law CrcTable: of the table two numbers, changed by one another, are that at both places; for any two places. -/
import Derived.Test.YtfkkfbaehokilaaM
import Derived.StillTailTactics
import Derived.OpenShut
namespace Go.Proofs.Ytfkkfbaehokilaa
open Go.RowKit

set_option maxRecDepth 100000 in
set_option maxHeartbeats 1000000 in
theorem crcTable_any (i k : Nat) (hi : i < 256) (hk : k < 256) (w : World) :
    Calls Try.prog 8 #[.int .u8 i, .int .u8 k] w fun e w' => e = .returned (.bool true) ∧ Below w.heap.size w w' := by
  have hz := tabA_zero_run
  go_enter Try.func8, Try.ntmps8
  go_wp2_with (fail)
  refine (table_any _).mono ?_
  rintro e w1 ⟨rfl, hb⟩
  go_wp2_with (refine wpList_store_row rfl 26 _ _ rfl w1.heap.size (tabA 256) rfl rfl 26 (tabA 0) (heap_alloc_new w1 _) (tabA_info 256) (by rw [tabA_size, tabA_size]) (tabA_one 256) ?_)
  rw [World.setRow_alloc_new]
  clear hz
  have hj : i ^^^ k < 256 := Nat.xor_lt_two_pow (n := 8) hi hk
  have hx := u8_xor_nat i k hi hk
  have h1 := tabA_get 256 _ hj (by omega)
  have h2 := tabA_get 256 i hi (by omega)
  have h3 := tabA_get 256 k hk (by omega)
  have h4 := tabA_get 256 0 (by omega) (by omega)
  have hx2 := u32_xor_nat (CrcPure.tab i) (CrcPure.tab k) (CrcPure.tab_lt (by omega)) (CrcPure.tab_lt (by omega))
  rw [← CrcPure.tab_xor] at hx2
  rw [CrcPure.tab_zero] at h4
  generalize i ^^^ k = j at *
  generalize CrcPure.tab j = tj at *
  generalize CrcPure.tab i = ti at *
  generalize CrcPure.tab k = tk at *
  have hb2 : Below w.heap.size w (w1.alloc (.cells (tabA 256) 26)) := hb.trans ((Below.refl _ _).alloc hb.size _)
  have hc : ∀ x, (w1.alloc (.cells (tabA 256) 26)).cell? ⟨w1.heap.size, x, none⟩ = (tabA 256)[x]? := fun x => World.cell?_alloc_at _ _ _ _ rfl
  rw [← hc] at h1 h2 h3 h4
  clear hc hb
  generalize w1.alloc (.cells (tabA 256) 26) = w2 at *
  refine wp_region_still_tail 19 (by kernel_rfl) (by kernel_rfl) ?_
  simp only [List.take_succ_cons, List.take_zero, List.drop_succ_cons, List.drop_zero]
  have e3 : ({ heap := w2.heap, tape := w2.tape, drawn := w2.drawn + 1, os := w2.os, output := w2.output } : World) = w2.drew := rfl
  rw [e3]
  have hb3 := hb2.drew
  replace h1 : w2.drew.cell? _ = _ := h1
  replace h2 : w2.drew.cell? _ = _ := h2
  replace h3 : w2.drew.cell? _ = _ := h3
  replace h4 : w2.drew.cell? _ = _ := h4
  clear hb2 e3
  generalize w2.drew = w3 at *
  have q1 : (i : Int) < 256 := by omega
  have q2 : (k : Int) < 256 := by omega
  have q3 : (j : Int) < 256 := by omega
  repeat still_step
  refine wpStill_nil ?_
  go_wp2_with (fail)
  refine (awake_any _).mono ?_
  rintro e w4 ⟨rfl, hb4⟩
  go_wp2
  go_ret
  exact ⟨rfl, hb3.trans (hb4.mono hb3.size)⟩
theorem crcTable_walk (a0 a1 : Int) (w : World) (w0 : (Lit.int .u8 a0).wf = true) (w1 : (Lit.int .u8 a1).wf = true) :
    Calls Try.prog 8 #[.int .u8 a0, .int .u8 a1] w fun e w' => e = .returned (.bool true) ∧ Below w.heap.size w w' := by
  have b0 := bounds_u8 w0
  have b1 := bounds_u8 w1
  obtain ⟨i, rfl⟩ : ∃ i : Nat, a0 = i := ⟨a0.toNat, by omega⟩
  obtain ⟨k, rfl⟩ : ∃ i : Nat, a1 = i := ⟨a1.toNat, by omega⟩
  exact crcTable_any i k (by omega) (by omega) w
end Go.Proofs.Ytfkkfbaehokilaa
