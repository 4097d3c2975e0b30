/- The walks of crc.More and crc.Sum: the sum of any text, behind any sum. -/
import Derived.Test.YtjmcdnhbiamokaaCrcTab
import Derived.Deep.WholeRow
namespace Go.Proofs.Ytjmcdnhbiamokaa
open Go.RowKit

/-- a text's bytes, as numbers -/
def bs (t : ByteArray) : List Nat := t.data.toList.map (·.toNat)
theorem bs_lt (t : ByteArray) : ∀ c ∈ bs t, c < 256 := by
  intro c hc; simp only [bs, List.mem_map] at hc; obtain ⟨x, _, rfl⟩ := hc; exact x.toNat_lt
theorem bs_len (t : ByteArray) : (bs t).length = t.size := by simp [bs]

theorem xor_max (s : Nat) (hs : s < 4294967296) : Go.bits .xor .u32 IntKind.u32.max (s : Int) = ((CrcPure.top - s : Nat) : Int) := by
  rw [CrcPure.top_sub hs]
  have := u32_xor_nat CrcPure.top s (by decide) hs
  rw [← this]; rfl

theorem run_take (n : Nat) (t : ByteArray) (k : Nat) (h : k < t.size) : CrcPure.run n ((bs t).take (k + 1)) = CrcPure.upd (CrcPure.run n ((bs t).take k)) t[k].toNat := by
  have e : (bs t).take (k + 1) = (bs t).take k ++ [t[k].toNat] := by
    rw [List.take_succ_eq_append_getElem (by rw [bs_len]; exact h)]; simp [bs]; rfl
  rw [e, CrcPure.run_append, CrcPure.upd_eq]; rfl

set_option maxRecDepth 100000 in
set_option maxHeartbeats 1000000 in
theorem more_any (s : Nat) (hs : s < 4294967296) (t : ByteArray) (ht : t.size ≤ 140737488351232) (w : World) :
    Calls Try.prog 33 #[.int .u32 s, .string t] w fun e w' => e = .returned (.int .u32 (CrcPure.more s (bs t) : Nat)) ∧ Below w.heap.size w w' := by
  have hz := tabA_zero_run
  have hx := xor_max s hs
  have htop : CrcPure.top - s < 4294967296 := by unfold CrcPure.top; omega
  go_enter Try.func33, Try.ntmps33
  go_wp2_with (fail)
  refine (table_any _).mono ?_
  rintro e w1 ⟨rfl, hb⟩
  go_wp2_with (refine wpList_store_row rfl 66 _ _ rfl w1.heap.size (tabA 256) rfl rfl 66 (tabA 0) (heap_alloc_new w1 _) (tabA_info 256) (by rw [tabA_size, tabA_size]) (tabA_one 256) ?_)
  rw [World.setRow_alloc_new]
  clear hz hx
  go_loop [6, 7, 13] (fun n _ i => ∃ k : Nat, k ≤ t.size ∧ i = .int .i64 k ∧ n = .int .u32 (CrcPure.run (CrcPure.top - s) ((bs t).take k) : Nat)) (fun _ _ i => t.size - (intOf i).toNat)
  case atStart => exact ⟨0, Nat.zero_le _, rfl, rfl⟩
  case round =>
    obtain ⟨k, hk, rfl, rfl⟩ := hrel
    have hlt32 : CrcPure.run (CrcPure.top - s) ((bs t).take k) < 4294967296 := CrcPure.run_lt htop (fun c hc => bs_lt t c (List.mem_of_mem_take hc))
    by_cases hlt : k < t.size
    · have hstep := run_take (CrcPure.top - s) t k hlt
      generalize CrcPure.run (CrcPure.top - s) ((bs t).take k) = n at *
      have hc : t[k].toNat < 256 := t[k].toNat_lt
      have hi : n % 256 ^^^ t[k].toNat < 256 := Nat.xor_lt_two_pow (n := 8) (by omega) hc
      have hx : Go.bits .xor .u8 ((n : Int) % 256) ((t[k].toNat : Nat) : Int) = ((n % 256 ^^^ t[k].toNat : Nat) : Int) := u8_xor_nat (n % 256) t[k].toNat (by omega) hc
      have hg := tabA_get 256 _ hi (by omega)
      have hx2 : Go.bits .xor .u32 ((n : Int) / 256) (CrcPure.tab (n % 256 ^^^ t[k].toNat) : Nat) = ((n / 256 ^^^ CrcPure.tab (n % 256 ^^^ t[k].toNat) : Nat) : Int) := u32_xor_nat (n / 256) _ (by omega) (CrcPure.tab_lt (by omega))
      have hs2 : CrcPure.run (CrcPure.top - s) ((bs t).take (k + 1)) = n / 256 ^^^ CrcPure.tab (n % 256 ^^^ t[k].toNat) := hstep
      clear hstep
      generalize n % 256 ^^^ t[k].toNat = j at *
      generalize CrcPure.tab j = g at *
      generalize n / 256 ^^^ g = m at *
      have HS := Lib.hid hs2
      clear hs2
      go_wp2
      go_round
      case rel => exact ⟨k + 1, by omega, by go_num, by rw [HS.out]⟩
      case measure => simp [intOf]; omega
    · obtain rfl : k = t.size := by omega
      have he : (bs t).take t.size = bs t := by rw [← bs_len t, List.take_length]
      rw [he] at hlt32 ⊢
      have hx3 := xor_max _ hlt32
      have hm : CrcPure.more s (bs t) = CrcPure.top - CrcPure.run (CrcPure.top - s) (bs t) := rfl
      generalize CrcPure.run (CrcPure.top - s) (bs t) = n at *
      have HM := Lib.hid hm
      clear hm he
      generalize CrcPure.top - n = m at *
      go_wp2
      go_ret
      exact ⟨by rw [HM.out]; rfl, hb.trans ((Below.refl _ _).alloc hb.size _)⟩
set_option maxHeartbeats 1000000 in
theorem sum_any (t : ByteArray) (ht : t.size ≤ 140737488351232) (w : World) :
    Calls Try.prog 21 #[.string t] w fun e w' => e = .returned (.int .u32 (CrcPure.more 0 (bs t) : Nat)) ∧ Below w.heap.size w w' := by
  go_enter Try.func21, Try.ntmps21
  go_wp2_with (fail)
  refine (more_any 0 (by decide) t ht _).mono ?_
  rintro e w1 ⟨rfl, hb⟩
  go_wp2
  go_ret
  exact ⟨rfl, hb⟩
end Go.Proofs.Ytjmcdnhbiamokaa
