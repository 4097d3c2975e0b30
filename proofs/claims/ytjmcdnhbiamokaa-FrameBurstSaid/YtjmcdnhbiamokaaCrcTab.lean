/- The walks of crc.step and crc.Table: one halving, and the table of 256 numbers. -/
import Derived.Test.YtjmcdnhbiamokaaRows
import Derived.Test.YtjmcdnhbiamokaaCrcPure
import Derived.WalkKit
import Derived.WalkSpells
import Derived.WalkLawsBesides
import Derived.Lib.Hide
import Derived.Laws.CopyOwn
namespace Go.Proofs.Ytjmcdnhbiamokaa
open Go.RowKit

theorem u32_xor_poly (n : Nat) (hn : n < 4294967296) : Go.bits .xor .u32 (n : Int) 2197175160 = ((n ^^^ CrcPure.pl : Nat) : Int) := u32_xor_nat n CrcPure.pl hn (by decide)
theorem u32_and_one (n : Nat) (hn : n < 4294967296) : Go.bits .and .u32 (n : Int) 1 = ((n % 2 : Nat) : Int) := by
  have := u32_and_nat n 1 hn (by decide); rw [nat_mask1] at this; exact this

set_option maxHeartbeats 400000 in
theorem step_any (n : Nat) (hn : n < 4294967296) (w : World) :
    Calls Try.prog 37 #[.int .u32 n] w fun e w' => e = .returned (.int .u32 (CrcPure.st n : Nat)) ∧ w = w' := by
  by_cases h : n % 2 = 1
  · have e1 := u32_and_one n hn
    have e2 := u32_xor_poly (n / 2) (by omega)
    have hb : (Go.bits .and .u32 (n : Int) 1 == 1) = true := by rw [e1]; simp [h]
    have hs : (CrcPure.st n) = n / 2 ^^^ CrcPure.pl := by unfold CrcPure.st; rw [if_pos h]
    have H := Lib.hid hs; have H2 := Lib.hid e2
    clear hs e1 e2 h
    go_enter Try.func37, Try.ntmps37
    go_wp2
    go_ret
    refine ⟨?_, rfl⟩
    rw [H.out]; have := H2.out; simpa using this
  · have e1 := u32_and_one n hn
    have hb : (Go.bits .and .u32 (n : Int) 1 == 1) = false := by rw [e1]; simp; omega
    have hs : (CrcPure.st n) = n / 2 := by unfold CrcPure.st; rw [if_neg h]
    have H := Lib.hid hs
    clear hs e1 h
    go_enter Try.func37, Try.ntmps37
    go_wp2
    go_ret
    refine ⟨?_, rfl⟩
    rw [H.out]; simp

/-- the cells of an array of which the first k numbers are the table's, the others 0 -/
def tabA (k : Nat) : Array Value := Array.ofFn (n := 256) fun i => .int .u32 (if i.val < k then ((CrcPure.tab i.val : Nat) : Int) else 0)
theorem tabA_size (k : Nat) : (tabA k).size = 256 := by simp [tabA]
set_option maxRecDepth 100000 in
theorem tabA_zero_run (w : World) : (zeroValue 66).run Try.prog w = .ok (.agg (tabA 0)) w := by
  have e : tabA 0 = Array.replicate 256 (.int .u32 0) := by
    unfold tabA; simp only [Nat.not_lt_zero, if_false]; apply Array.ext <;> simp
  rw [e]; exact (by kernel_rfl : (zeroValue 66).run Try.prog w = .ok (.agg (Array.replicate 256 (.int .u32 0))) w)
theorem tabA_step (k : Nat) : (tabA k).setIfInBounds k (.int .u32 (CrcPure.tab k : Nat)) = tabA (k + 1) := by
  apply Array.ext
  · simp [tabA]
  · intro i h1 h2
    rw [Array.getElem_setIfInBounds (by rw [tabA_size]; rw [tabA_size] at h2; exact h2)]
    by_cases e : k = i
    · subst e; simp [tabA]
    · simp only [if_neg e, tabA, Array.getElem_ofFn]
      by_cases h3 : i < k
      · rw [if_pos h3, if_pos (by omega)]
      · rw [if_neg h3, if_neg (by omega)]
theorem tabA_get (k i : Nat) (h : i < 256) (hk : 256 ≤ k) : (tabA k)[i]? = some (.int .u32 (CrcPure.tab i : Nat)) := by
  rw [Array.getElem?_eq_getElem (by rw [tabA_size]; exact h)]; simp only [tabA, Array.getElem_ofFn]; rw [if_pos (by omega)]
theorem tabA_some (k i : Nat) (h : i < 256) : ∃ v, (tabA k)[i]? = some v := ⟨_, Array.getElem?_eq_getElem (by rw [tabA_size]; exact h)⟩
theorem tabA_one (k : Nat) : (tabA k).all (·.oneCell') = true := by
  rw [Array.all_eq_true]; intro i h; simp only [tabA, Array.getElem_ofFn]; rfl
theorem tabA_info (k : Nat) : (Try.prog.info? 66).map (·.size) = some (tabA k).size := by rw [tabA_size]; kernel_rfl
theorem stn_succ (j n : Nat) : CrcPure.stn (j + 1) n = CrcPure.st (CrcPure.stn j n) := by rw [CrcPure.stn_add]; rfl

set_option maxRecDepth 100000 in
set_option maxHeartbeats 1000000 in
theorem table_any (w : World) :
    Calls Try.prog 36 #[] w fun e w' => e = .returned (.agg (tabA 256)) ∧ Below w.heap.size w w' := by
  have hz := tabA_zero_run
  go_enter Try.func36, Try.ntmps36
  go_wp2
  go_loopw [2, 3, 4, 9] (fun _ _ i _ wr => ∃ k : Nat, k ≤ 256 ∧ i = .int .i64 k ∧ wr = (w.alloc (.cells (tabA 0) 66)).alloc (.cells (tabA k) 66)) (fun _ _ i _ _ => 256 - (intOf i).toNat)
  case atStart => exact ⟨0, Nat.zero_le _, rfl, rfl⟩
  case round =>
    obtain ⟨k, hk, rfl, rfl⟩ := hrel
    clear hz
    by_cases hlt : k < 256
    · have hb : decide ((k : Int) < 256) = true := decide_eq_true (by omega)
      go_wp2
      go_loop [3, 9] (fun n i => ∃ j : Nat, j ≤ 8 ∧ i = .int .i64 j ∧ n = .int .u32 (CrcPure.stn j k : Nat)) (fun _ i => 8 - (intOf i).toNat)
      case atStart => exact ⟨0, Nat.zero_le _, rfl, rfl⟩
      case round =>
        obtain ⟨j, hj, rfl, rfl⟩ := hrel
        by_cases hlt2 : j < 8
        · have hn : CrcPure.stn j k < 4294967296 := CrcPure.stn_lt (by omega)
          go_wp2_with (go_at_call 37; refine (step_any _ hn _).mono ?_; rintro e w' ⟨rfl, rfl⟩)
          go_round
          case rel => exact ⟨j + 1, by omega, by go_num, by rw [stn_succ]⟩
          case measure => simp [intOf]; omega
        · obtain rfl : j = 8 := by omega
          obtain ⟨v, hv⟩ := tabA_some k k hlt
          have hst := tabA_step k
          unfold CrcPure.tab at hst
          go_wp2
          go_roundw
          case rel => exact ⟨k + 1, by omega, by go_num, rfl⟩
          case measure => simp [intOf]; omega
    · obtain rfl : k = 256 := by omega
      go_wp2_with (first | (refine wpList_load_row rfl 66 _ rfl (w.heap.size + 1) rfl 66 (tabA 256) (0, 0) _ (heap_alloc2_new w _ _) Try.underlying66 rfl (tabA_info 256) ?_) | (refine wpList_store_row rfl 66 _ _ rfl w.heap.size (tabA 256) rfl rfl 66 (tabA 0) (heap_alloc2_old w _ _) (tabA_info 256) (by rw [tabA_size, tabA_size]) (tabA_one 256) ?_))
      have hrow : (((w.alloc (Obj.cells (tabA 0) 66)).alloc (Obj.cells (tabA 256) 66)).setRow w.heap.size (tabA 256)).heap[w.heap.size]? = some (.cells (tabA 256) 66 (0, 0)) := setRow_heap _ _ (tabA 0) _ _ _ (heap_alloc2_old w _ _)
      refine bodyPost_ret (results_cell_row rfl _ _ w.heap.size 66 (tabA 256) (0, 0) _ rfl hrow Try.underlying66 rfl (tabA_info 256)) rfl ⟨rfl, ?_⟩
      exact below_setRow (((Below.refl _ _).alloc (Nat.le_refl _) _).alloc (by simp) _) (Nat.le_refl _) _
end Go.Proofs.Ytjmcdnhbiamokaa
