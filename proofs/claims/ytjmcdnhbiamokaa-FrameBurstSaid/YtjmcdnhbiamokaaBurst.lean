/- The walk of the law FrameBurst: a frame of which bits are turned, within 32 that follow one another, some at least, is not opened. -/
import Derived.Test.YtjmcdnhbiamokaaRow
import Derived.Test.YtjmcdnhbiamokaaPureB
import Derived.Deep.RegionWith
import Derived.OpenShut
namespace Go.Proofs.Ytjmcdnhbiamokaa
open Go.RowKit
set_option linter.unusedVariables false

theorem Row.of_conv (w : World) (s : ByteArray) (cap : Nat) : Row (w.drew.alloc (.cells (bytesRow s cap) 5 ((bytesRow s cap).size, (bytesRow s cap).size + 1))) w.heap.size (bs s) := by
  intro j hj
  rw [bs_len] at hj
  have hb : (w.drew.alloc (.cells (bytesRow s cap) 5 ((bytesRow s cap).size, (bytesRow s cap).size + 1))).heap[w.heap.size]? = some (.cells (bytesRow s cap) 5 ((bytesRow s cap).size, (bytesRow s cap).size + 1)) := heap_alloc_new w.drew _
  refine ⟨?_, ?_⟩
  · simp only [World.cell?, hb]
    simp [bytesRow, bs, hj, Array.getElem?_append]
  · simp only [World.frozen?, hb]
    have : s.size ≤ (bytesRow s cap).size := by simp [bytesRow]
    simp; omega

theorem str_len (l : List Nat) : (str l).size = l.length := by simp [str, ByteArray.size]
theorem low_xor (x m k : Nat) (h : x < 2 ^ k) : x + 2 ^ k * m = x ^^^ m * 2 ^ k := by
  apply Nat.eq_of_testBit_eq
  intro i
  rw [Nat.add_comm, Nat.testBit_two_pow_mul_add _ h, Nat.testBit_xor, Nat.testBit_mul_two_pow]
  by_cases hi : i < k
  · simp [hi, show ¬ k ≤ i by omega]
  · have : x.testBit i = false := Nat.testBit_lt_two_pow (Nat.lt_of_lt_of_le h (Nat.pow_le_pow_right (by omega) (by omega)))
    simp [hi, this, show k ≤ i by omega]
theorem bits_set (b k : Nat) (h : b / 2 ^ k % 2 = 1) : b % 2 ^ (k + 1) = b % 2 ^ k ^^^ 2 ^ k := by
  rw [Nat.mod_pow_succ, h, low_xor _ _ _ (Nat.mod_lt _ (Nat.two_pow_pos k)), Nat.one_mul]
theorem bits_clear (b k : Nat) (h : ¬ b / 2 ^ k % 2 = 1) : b % 2 ^ (k + 1) = b % 2 ^ k := by
  rw [Nat.mod_pow_succ, show b / 2 ^ k % 2 = 0 by omega]; simp
theorem flip_u8 (n r : Nat) (hn : n < 256) (hr : r < 8) : Go.bits .xor .u8 (n : Int) ((2 : Int) ^ r % 256) = ((n ^^^ 2 ^ r : Nat) : Int) := by
  have h2 : 2 ^ r < 256 := Nat.pow_lt_pow_right (n := 8) (by omega) hr
  have := u8_xor_nat n (2 ^ r) hn h2
  rw [← this]; congr 1
  have e : (2 : Int) ^ r = ((2 ^ r : Nat) : Int) := by simp
  rw [e]
  generalize (2 ^ r : Nat) = d at *
  omega
set_option maxRecDepth 100000 in
set_option maxHeartbeats 4000000 in
theorem frameBurst_any (a0 : Int) (s0 : ByteArray) (at_ b : Nat) (h0 : (Lit.int .u8 a0).wf = true) (h1 : s0.size ≤ 300) (hat : at_ < 65536) (hb : b < 4294967296) (hb0 : b ≠ 0) (w : World) :
    Calls Try.prog 5 #[.int .u8 a0, .string s0, .int .u16 at_, .int .u32 b] w fun e w' => e = .returned (.bool true) ∧ Below w.heap.size w w' := by
  obtain ⟨kd, rfl, hkd, ek, tk⟩ := Pure.kind_w a0 h0
  obtain ⟨s, hs, hs2⟩ := Pure.seal_f 0 (1 + kd % 8) s0 (by omega) (by omega) (by omega)
  obtain ⟨hz1, hz2⟩ := Pure.frame_size (by omega) hs2
  have hcv := fun w => run_bytes_of_string (P := Try.prog) w 9 36 5 s Try.underlying9 Try.underlying36 Try.underlying5
  have q1 : decide ((300 : Int) < (s0.size : Int)) = false := decide_eq_false (by omega)
  have q2 : decide ((s.size : Int) < 11) = false := decide_eq_false (by omega)
  have q3 : ((b : Int) == 0) = false := by simp; omega
  rw [show ((1 + kd % 8 : Nat) : Int) = 1 + (kd : Int) % 8 by omega] at hs
  have S := fun w => Q.frame_Seal.calls (0 + 11) (1 + (kd : Int) % 8) s0 s 0 w hs
  have S := Lib.hid S
  have HS2 := Lib.hid hs2
  clear hs hs2 ek tk
  go_enter Try.func5, Try.ntmps5
  go_wp2_with (fail)
  refine (S.out _).mono ?_
  rintro e wa ⟨rfl, hba⟩
  have hba' := Lib.hid hba
  clear hba
  go_wp2_with (fail)
  obtain ⟨f, hf, hf2⟩ : ∃ f : Nat, ((at_ : Int) % (8 * (s.size : Int) - 31)) = f ∧ f + 32 ≤ 8 * s.size := by
    have m1 := Int.emod_nonneg (at_ : Int) (show (8 * (s.size : Int) - 31) ≠ 0 by omega)
    have m2 := Int.emod_lt_of_pos (at_ : Int) (show 0 < (8 * (s.size : Int) - 31) by omega)
    exact ⟨((at_ : Int) % (8 * (s.size : Int) - 31)).toNat, by omega, by omega⟩
  rw [hf]
  clear hcv q1 q2 q3 hf
  have hle := hba'.out.size
  generalize hcap : grownCap wa s.size 0 5 = cap
  clear hcap
  have hr0 : Row (wa.drew.alloc (.cells (bytesRow s cap) 5 ((bytesRow s cap).size, (bytesRow s cap).size + 1))) wa.heap.size (bs s) := Row.of_conv wa s cap
  have hb1 : Below w.heap.size w (wa.drew.alloc (.cells (bytesRow s cap) 5 ((bytesRow s cap).size, (bytesRow s cap).size + 1))) := (hba'.out.drew).alloc hba'.out.size _
  go_loopw [51] (fun i wr => ∃ k : Nat, ∃ l : List Nat, k ≤ 32 ∧ i = .int .i64 k ∧ l.length = s.size ∧ (∀ c ∈ l, c < 256) ∧ CrcPure.val l = CrcPure.val (bs s) ^^^ b % 2 ^ k * 2 ^ f ∧ Row wr wa.heap.size l ∧ Below w.heap.size w wr) (fun i _ => 32 - (intOf i).toNat)
  case atStart => exact ⟨0, bs s, by omega, rfl, bs_len s, bs_lt s, by simp [Nat.mod_one], hr0, hb1⟩
  case round =>
    clear hr0 hb1
    obtain ⟨k, l, hk, rfl, hl, hlt, hv, hrow, hbel⟩ := hrel
    by_cases h32 : k < 32
    · have HV := Lib.hid hv; have HR := Lib.hid hrow; have HL := Lib.hid hl
      clear hv hrow hl
      have hand : Go.bits .and .u32 ((b : Int) / 2 ^ k) 1 = ((b / 2 ^ k % 2 : Nat) : Int) := by
        have := u32_and_one (b / 2 ^ k) (Nat.lt_of_le_of_lt (Nat.div_le_self _ _) hb)
        rw [← this]; simp
      by_cases hbit : b / 2 ^ k % 2 = 1
      · have ht : (Go.bits .and .u32 ((b : Int) / 2 ^ k) 1 == 1) = true := by rw [hand]; simp [hbit]
        clear hand
        go_wp2_with (fail)
        refine wp_region_still_tail 10 (by kernel_rfl) (by kernel_rfl) ?_
        simp only [List.take_succ_cons, List.take_zero, List.drop_succ_cons, List.drop_zero]
        have e3 : ({ heap := wr.heap, tape := wr.tape, drawn := wr.drawn + 1, os := wr.os, output := wr.output } : World) = wr.drew := rfl
        rw [e3]
        have hbel := hbel.drew
        have hrow : Row wr.drew wa.heap.size l := HR.out
        clear HR e3
        generalize wr.drew = wd at *
        have hq : (f + k) / 8 < l.length := by rw [HL.out]; omega
        obtain ⟨hc1, hc2⟩ := hrow ((f + k) / 8) hq
        have HB := Lib.hid hbit
        clear hbit
        have t1 : IntKind.i64.wrap (((f : Int) + (k : Int)).tdiv 8) = (((f + k) / 8 : Nat) : Int) := by
          rw [Int.tdiv_eq_ediv_of_nonneg (by omega), IntKind.wrap_i64]; omega
        have t2 : ((f : Int) + (k : Int)).tmod 8 = (((f + k) % 8 : Nat) : Int) := by
          rw [Int.tmod_eq_emod_of_nonneg (by omega)]; omega
        have t3 : (((f + k) / 8 : Nat) : Int) < (s.size : Int) := by have := HL.out; omega
        have t4 : (((f + k) % 8 : Nat) : Int) < 8 := by omega
        have hfl := CrcPure.val_flip l hlt ((f + k) / 8) ((f + k) % 8) hq (by omega)
        rw [show 8 * ((f + k) / 8) + (f + k) % 8 = f + k by omega] at hfl
        have hx := flip_u8 l[(f + k) / 8] ((f + k) % 8) (hlt _ (List.getElem_mem _)) (by omega)
        have hy : l[(f + k) / 8] ^^^ 2 ^ ((f + k) % 8) < 256 := Nat.xor_lt_two_pow (n := 8) (hlt _ (List.getElem_mem _)) (Nat.pow_lt_pow_right (by omega) (by omega))
        generalize (f + k) / 8 = q at *
        generalize (f + k) % 8 = r at *
        generalize hz : l[q] ^^^ 2 ^ r = z at *
        have hst := hrow.store q z
        have hv2 : CrcPure.val (l.set q z) = CrcPure.val (bs s) ^^^ b % 2 ^ (k + 1) * 2 ^ f := by
          rw [hfl, HV.out, bits_set b k HB.out, CrcPure.xor_pow, Nat.xor_assoc, ← Nat.pow_add, Nat.add_comm k f]
        have hlt2 : ∀ c ∈ l.set q z, c < 256 := by
          intro c hc
          rcases List.mem_or_eq_of_mem_set hc with h | h
          · exact hlt c h
          · rw [h]; exact hy
        have hl2 : (l.set q z).length = s.size := by rw [List.length_set]; exact HL.out
        have hbs := hbel.setCell (p := ⟨wa.heap.size, q, none⟩) hle (.int .u8 (z : Int))
        have HST := Lib.hid hst; have HBS := Lib.hid hbs; have HV2 := Lib.hid hv2; have HL2 := Lib.hid hl2; have HT2 := Lib.hid hlt2
        clear hst hrow hbs hv2 hl2 hlt2 hfl hz hlt hbel
        repeat still_step
        refine wpStill_nil ?_
        go_wp2
        go_roundw
        case rel => exact ⟨k + 1, l.set q z, by omega, by go_num, HL2.out, HT2.out, HV2.out, HST.out, HBS.out⟩
        case measure => simp [intOf]; omega
      · have ht : (Go.bits .and .u32 ((b : Int) / 2 ^ k) 1 == 1) = false := by rw [hand]; exact beq_eq_false_iff_ne.mpr (fun e => hbit (Int.ofNat_inj.1 e))
        have hv2 : CrcPure.val l = CrcPure.val (bs s) ^^^ b % 2 ^ (k + 1) * 2 ^ f := by rw [bits_clear b k hbit]; exact HV.out
        have HV2 := Lib.hid hv2
        clear hand hbit hv2
        go_wp2
        go_roundw
        case rel => exact ⟨k + 1, l, by omega, by go_num, HL.out, hlt, HV2.out, HR.out, hbel⟩
        case measure => simp [intOf]; omega
    · obtain rfl : k = 32 := by omega
      rw [Nat.mod_eq_of_lt (by exact hb)] at hv
      have hcv := hrow.string (t := str l) (bs_str _ hlt).symm cap
      rw [hl] at hcv
      obtain ⟨e2, ho, he2⟩ := Pure.burst_no (s := s) (d := str l) (k := 1 + kd % 8) (p := s0) (f := f) (b := b) (by omega) HS2.out (by omega) (by rw [str_len, hl]) (by omega) hb hb0 (by rw [bs_str l hlt]; exact hv)
      clear hrow hv hlt hb0
      generalize str l = d at *
      have H0 := Lib.hid (fun w => Q.frame_Open.calls d 0 ⟨#[]⟩ e2 w ho)
      clear ho hl
      rcases he2 with rfl | rfl
      · go_wp2_with (fail)
        refine (H0.out _).mono ?_
        rintro e w1 ⟨rfl, hb1⟩
        go_wp2_with (fail)
        refine (Q.samphirelaw09_awake.calls 12 true _ Pure.awake_k).mono ?_
        rintro e w2 ⟨rfl, hb2⟩
        go_wp2
        go_ret
        exact ⟨rfl, bbt (bbt hbel hb1) hb2⟩
      · go_wp2_with (fail)
        refine (H0.out _).mono ?_
        rintro e w1 ⟨rfl, hb1⟩
        go_wp2_with (fail)
        refine (Q.samphirelaw09_awake.calls 12 true _ Pure.awake_k).mono ?_
        rintro e w2 ⟨rfl, hb2⟩
        go_wp2
        go_ret
        exact ⟨rfl, bbt (bbt hbel hb1) hb2⟩
set_option maxRecDepth 100000 in
set_option maxHeartbeats 1000000 in
theorem frameBurst_else (kd : Int) (s0 : ByteArray) (at_ b : Nat) (h : 300 < s0.size ∨ b = 0) (hs : s0.size ≤ 140737488351232) (hat : at_ < 65536) (hb : b < 4294967296) (w : World) :
    Calls Try.prog 5 #[.int .u8 kd, .string s0, .int .u16 at_, .int .u32 b] w fun e w' => e = .returned (.bool true) ∧ Below w.heap.size w w' := by
  by_cases h1 : 300 < s0.size
  · have q1 : decide ((300 : Int) < (s0.size : Int)) = true := decide_eq_true (by omega)
    go_enter Try.func5, Try.ntmps5
    go_wp2_with (fail)
    refine (Q.samphirelaw09_awake.calls 12 true _ Pure.awake_k).mono ?_
    rintro e w3 ⟨rfl, hb3⟩
    go_wp2
    go_ret
    exact ⟨rfl, hb3⟩
  · have q1 : decide ((300 : Int) < (s0.size : Int)) = false := decide_eq_false (by omega)
    obtain rfl : b = 0 := by omega
    go_enter Try.func5, Try.ntmps5
    go_wp2_with (fail)
    refine (Q.samphirelaw09_awake.calls 12 true _ Pure.awake_k).mono ?_
    rintro e w3 ⟨rfl, hb3⟩
    go_wp2
    go_ret
    exact ⟨rfl, hb3⟩
theorem frameBurst_walk (a0 : Int) (a1 : ByteArray) (a2 a3 : Int) (w : World) (w0 : (Lit.int .u8 a0).wf = true) (w1 : a1.size ≤ 140737488351232) (w2 : (Lit.int .u16 a2).wf = true) (w3 : (Lit.int .u32 a3).wf = true) :
    Calls Try.prog 5 #[.int .u8 a0, .string a1, .int .u16 a2, .int .u32 a3] w fun e w' => e = .returned (.bool true) ∧ Below w.heap.size w w' := by
  have h2 : 0 ≤ a2 ∧ a2 < 65536 := by
    simp only [Lit.wf, Bool.and_eq_true, decide_eq_true_eq] at w2
    have e1 : IntKind.u16.min = 0 := rfl
    have e2 : IntKind.u16.max = 65535 := rfl
    omega
  have h3 : 0 ≤ a3 ∧ a3 < 4294967296 := by
    simp only [Lit.wf, Bool.and_eq_true, decide_eq_true_eq] at w3
    have e1 : IntKind.u32.min = 0 := rfl
    have e2 : IntKind.u32.max = 4294967295 := rfl
    omega
  obtain ⟨at_, rfl⟩ : ∃ n : Nat, a2 = n := ⟨a2.toNat, by omega⟩
  obtain ⟨b, rfl⟩ : ∃ n : Nat, a3 = n := ⟨a3.toNat, by omega⟩
  by_cases h : 300 < a1.size ∨ b = 0
  · exact frameBurst_else a0 a1 at_ b h w1 (by omega) (by omega) w
  · exact frameBurst_any a0 a1 at_ b w0 (by omega) (by omega) (by omega) (by omega) w
end Go.Proofs.Ytjmcdnhbiamokaa
