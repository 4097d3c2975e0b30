/- The walks of the document's answer for crc: samphireref06.More and samphireref06.At, bit by bit. -/
import Derived.Test.YtfkkfbaehokilaaM
namespace Go.Proofs.Ytfkkfbaehokilaa
open Go.RowKit

theorem ret_int {k : IntKind} {a b : Int} (h : a = b) : Ending.returned (.int k a) = .returned (.int k b) := by rw [h]
theorem u32_xor_half (m : Nat) (hm : m < 4294967296) : Go.bits .xor .u32 ((m : Int) / 2) 2197175160 = ((m / 2 ^^^ CrcPure.pl : Nat) : Int) := u32_xor_poly (m / 2) (by omega)

set_option maxRecDepth 100000 in
set_option maxHeartbeats 1000000 in
theorem refAt_any (n : Nat) (hn : n < 256) (w : World) :
    Calls Try.prog 14 #[.int .i64 n] w fun e w' => e = .returned (.int .u32 (CrcPure.tab n : Nat)) ∧ w = w' := by
  go_enter Try.func14, Try.ntmps14
  go_wp2
  go_loop [3, 4, 5] (fun m k _ => ∃ j : Nat, j ≤ 8 ∧ k = .int .i64 j ∧ m = .int .u32 (CrcPure.stn j n : Nat)) (fun _ k _ => 8 - (intOf k).toNat)
  case atStart => exact ⟨0, by omega, rfl, by simp [CrcPure.stn]⟩
  case round =>
    obtain ⟨j, hj, rfl, rfl⟩ := hrel
    have hm : CrcPure.stn j n < 4294967296 := CrcPure.stn_lt (by omega)
    by_cases hlt : j < 8
    · have hs := stn_succ j n
      generalize CrcPure.stn j n = m at *
      unfold CrcPure.st at hs
      by_cases h2 : m % 2 = 1
      · rw [if_pos h2] at hs
        have hx := u32_xor_half m hm
        generalize m / 2 ^^^ CrcPure.pl = m2 at *
        have H := Lib.hid hs
        have q : ((m : Int) % 2 == 1) = true := by simp; omega
        clear hs h2
        go_wp2
        go_round
        case rel => exact ⟨j + 1, by omega, by go_num, by rw [H.out]⟩
        case measure => simp [intOf]; omega
      · rw [if_neg h2] at hs
        have H := Lib.hid hs
        have q : ((m : Int) % 2 == 1) = false := by simp; omega
        clear hs h2
        go_wp2
        go_round
        case rel => exact ⟨j + 1, by omega, by go_num, by rw [H.out]; simp⟩
        case measure => simp [intOf]; omega
    · obtain rfl : j = 8 := by omega
      go_wp2
      go_ret
      exact ⟨rfl, rfl⟩

theorem run_take2 (n : Nat) (t : ByteArray) (k : Nat) (h : k < t.size) : CrcPure.run n ((bs t).take (k + 1)) = CrcPure.stn 8 (CrcPure.run n ((bs t).take k) ^^^ t[k].toNat) := by
  rw [run_take n t k h, CrcPure.upd_eq]

set_option maxRecDepth 100000 in
set_option maxHeartbeats 1000000 in
theorem refMore_any (s : Nat) (hs : s < 4294967296) (t : ByteArray) (ht : t.size ≤ 140737488351232) (w : World) :
    Calls Try.prog 11 #[.int .u32 s, .string t] w fun e w' => e = .returned (.int .u32 (CrcPure.more s (bs t) : Nat)) ∧ w = w' := by
  have htop : CrcPure.top - s < 4294967296 := by unfold CrcPure.top; omega
  go_enter Try.func11, Try.ntmps11
  go_wp2
  go_loop [5, 6, 7, 8] (fun n i _ _ => ∃ k : Nat, k ≤ t.size ∧ i = .int .i64 k ∧ n = .int .u32 (CrcPure.run (CrcPure.top - s) ((bs t).take k) : Nat)) (fun _ i _ _ => t.size - (intOf i).toNat)
  case atStart => exact ⟨0, Nat.zero_le _, rfl, by simp [CrcPure.run, CrcPure.top]; omega⟩
  case round =>
    obtain ⟨k, hk, rfl, rfl⟩ := hrel
    have hlt32 : CrcPure.run (CrcPure.top - s) ((bs t).take k) < 4294967296 := CrcPure.run_lt htop (fun c hc => bs_lt t c (List.mem_of_mem_take hc))
    by_cases hlt : k < t.size
    · have hstep := run_take2 (CrcPure.top - s) t k hlt
      generalize CrcPure.run (CrcPure.top - s) ((bs t).take k) = n at *
      have hc : t[k].toNat < 256 := t[k].toNat_lt
      have hx := u32_xor_nat n t[k].toNat hlt32 (by omega)
      have hn : n ^^^ t[k].toNat < 4294967296 := Nat.xor_lt_two_pow (n := 32) hlt32 (by omega)
      generalize n ^^^ t[k].toNat = a at *
      have HS := Lib.hid hstep
      clear hstep
      have hb : decide ((k : Int) < (t.size : Int)) = true := decide_eq_true (by omega)
      go_wp2
      go_loop [5, 7, 8] (fun m k _ => ∃ j : Nat, j ≤ 8 ∧ k = .int .i64 j ∧ m = .int .u32 (CrcPure.stn j a : Nat)) (fun _ k _ => 8 - (intOf k).toNat)
      case atStart => exact ⟨0, by omega, rfl, rfl⟩
      case round =>
        clear hx
        obtain ⟨j, hj, rfl, rfl⟩ := hrel
        have hm : CrcPure.stn j a < 4294967296 := CrcPure.stn_lt hn
        by_cases hlt : j < 8
        · have hs := stn_succ j a
          generalize CrcPure.stn j a = m at *
          unfold CrcPure.st at hs
          by_cases h2 : m % 2 = 1
          · rw [if_pos h2] at hs
            have hx := u32_xor_half m hm
            generalize m / 2 ^^^ CrcPure.pl = m2 at *
            have H := Lib.hid hs
            have q : ((m : Int) % 2 == 1) = true := by simp; omega
            clear hs h2
            go_wp2
            go_round
            case rel => exact ⟨j + 1, by omega, by go_num, by rw [H.out]⟩
            case measure => simp [intOf]; omega
          · rw [if_neg h2] at hs
            have H := Lib.hid hs
            have q : ((m : Int) % 2 == 1) = false := by simp; omega
            clear hs h2
            go_wp2
            go_round
            case rel => exact ⟨j + 1, by omega, by go_num, by rw [H.out]; simp⟩
            case measure => simp [intOf]; omega
        · obtain rfl : j = 8 := by omega
          generalize CrcPure.stn 8 a = r at *
          go_wp2
          go_round
          case rel => exact ⟨k + 1, by omega, by go_num, by rw [HS.out]⟩
          case measure => simp [intOf]; omega
    · obtain rfl : k = t.size := by omega
      have he : (bs t).take t.size = bs t := by rw [← bs_len t, List.take_length]
      rw [he] at hlt32 ⊢
      have hm : CrcPure.more s (bs t) = CrcPure.top - CrcPure.run (CrcPure.top - s) (bs t) := rfl
      generalize CrcPure.run (CrcPure.top - s) (bs t) = n at *
      have HM := Lib.hid hm
      clear hm he
      go_wp2
      go_ret
      refine ⟨ret_int ?_, rfl⟩
      rw [HM.out]; unfold CrcPure.top; omega
end Go.Proofs.Ytfkkfbaehokilaa
