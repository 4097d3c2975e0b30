/- The document's answer for frames: what it reads. -/
import Derived.Test.YtjmcdnhbiamokaaPureT
namespace Go.Proofs.Ytjmcdnhbiamokaa.Pure
open Go.RowKit Go.Proofs.Ytjmcdnhbiamokaa.Q Go.Proofs.YtjmcdnhbiamokaaW.PrintWords Go.Proofs.YtjmcdnhbiamokaaW.PrintLast
set_option linter.unusedVariables false
set_option linter.unusedSimpArgs false
/-- What the document's number tells: nothing, or a number that is written so. -/
def NumOk (r : ByteArray) (res : Int × Int) : Prop := res = (0, 0) ∨ ∃ v j : Nat, res = ((v : Int), (j : Int)) ∧ 0 < j ∧ j ≤ r.size ∧ v < 18446744073709551616 ∧ r.data.toList.take j = vi v
theorem u64_nat (x : Int) : ∃ n : Nat, IntKind.u64.wrap x = n ∧ n < 18446744073709551616 := by
  refine ⟨(IntKind.u64.wrap x).toNat, ?_, ?_⟩ <;> rw [IntKind.wrap_u64] <;> omega
theorem extract_list (r : ByteArray) (n : Nat) : (r.extract 0 n).data.toList = r.data.toList.take n := by
  rw [ByteArray.data_extract, Array.toList_extract, List.extract_eq_take_drop]; simp
theorem extract_drop (r : ByteArray) (n : Nat) : (r.extract n r.size).data.toList = r.data.toList.drop n := by
  have e : r.size = r.data.toList.length := by simp
  rw [ByteArray.data_extract, Array.toList_extract, List.extract_eq_take_drop, e, ← List.length_drop, List.take_length]
theorem refread_any (r : ByteArray) (hz : r.size ≤ 140737488351232) : ∀ (d i : Nat) (K : Nat) (x4 x5 : Int), i + d = 10 → ∃ res, samphireref08_number.l0 (K + 2 * d + 12) r x4 x5 (i : Int) = some res ∧ NumOk r res := by
  intro d
  induction d with
  | zero =>
    intro i K x4 x5 hi
    have hj : ∀ b, b = false → samphireref08_number.j1 (K + 11) r x4 x5 (i : Int) b = some (0, 0) := fun b h => by
      rw [h, show K + 11 = (K + 10) + 1 from rfl, samphireref08_number.j1, if_neg (by decide)]
    refine ⟨(0, 0), ?_, .inl rfl⟩
    rw [show K + 2 * 0 + 12 = (K + 11) + 1 by omega, samphireref08_number.l0]
    by_cases h : (i : Int) < (r.size : Int)
    · rw [if_pos h]; exact hj _ (decide_eq_false (by omega))
    · rw [if_neg h]; exact hj _ rfl
  | succ d ih =>
    intro i K x4 x5 hi
    rw [show K + 2 * (d + 1) + 12 = (K + 2 * d + 13) + 1 by omega, samphireref08_number.l0]
    by_cases h : (i : Int) < (r.size : Int)
    · rw [if_pos h, decide_eq_true (by omega), show K + 2 * d + 13 = (K + 2 * d + 12) + 1 by omega, samphireref08_number.j1, if_pos rfl, if_pos (by omega), if_pos h]
      have ew : wrap64 ((i : Int) + 1) = ((i + 1 : Nat) : Int) := by unfold wrap64; omega
      rw [ew]
      by_cases hc : IntKind.u64.wrap (bt r (i : Int)) < 128
      · rw [if_pos hc]
        obtain ⟨n, hn, hn2⟩ := u64_nat (x4 + IntKind.u64.wrap (Int.tmod (IntKind.u64.wrap (bt r (i : Int))) 128 * x5))
        rw [hn]
        obtain ⟨t, ht, ht2⟩ := refnum_k (K + 2 * d + 12) n (by omega) hn2
        rw [ht, Option.bind_some, if_pos (by omega), if_pos (by omega)]
        by_cases he : t.toList = (r.extract 0 ((i + 1 : Nat) : Int).toNat).toList
        · rw [if_pos he]
          refine ⟨_, rfl, .inr ⟨n, i + 1, rfl, by omega, by omega, hn2, ?_⟩⟩
          rw [ByteArray.toList_eq, ByteArray.toList_eq, extract_list, ht2] at he
          exact he.symm
        · rw [if_neg he]; exact ⟨_, rfl, .inl rfl⟩
      · rw [if_neg hc]; exact ih (i + 1) K _ _ (by omega)
    · rw [if_neg h, show K + 2 * d + 13 = (K + 2 * d + 12) + 1 by omega, samphireref08_number.j1, if_neg (by decide)]
      exact ⟨_, rfl, .inl rfl⟩
theorem refread_vi (r : ByteArray) (hz : r.size ≤ 140737488351232) (N : Nat) (rest : List UInt8) (hN : N < 18446744073709551616) (hr : r.data.toList = vi N ++ rest) : ∀ (d i : Nat) (K : Nat), i + d = 10 → r.data.toList.drop i = vi (N / 2 ^ (7 * i)) ++ rest → (vi N).length = i + (vi (N / 2 ^ (7 * i))).length → (0 < N / 2 ^ (7 * i) ∨ i = 0) →
    samphireref08_number.l0 (K + 2 * d + 12) r ((N % 2 ^ (7 * i) : Nat) : Int) ((2 ^ (7 * i) : Nat) : Int) (i : Int) = some ((N : Int), ((vi N).length : Int)) := by
  intro d
  induction d with
  | zero =>
    intro i K hi hd hl h0
    obtain rfl : i = 10 := by omega
    have : N / 2 ^ (7 * 10) = 0 := Nat.div_eq_of_lt (Nat.lt_of_lt_of_le hN (by decide))
    omega
  | succ d ih =>
    intro i K hi hd hl h0
    have hi10 : (i : Int) < 10 := by omega
    have hi0 : (0 : Int) ≤ (i : Int) := by omega
    have hi9 : i ≤ 9 := by omega
    have eK1 : K + 2 * (d + 1) + 12 = (K + 2 * d + 13) + 1 := by omega
    have eK2 : K + 2 * d + 13 = (K + 2 * d + 12) + 1 := by omega
    have hK10 : 10 ≤ K + 2 * d + 12 := by omega
    have hnext : i + 1 + d = 10 := by omega
    have ew : wrap64 ((i : Int) + 1) = ((i + 1 : Nat) : Int) := by unfold wrap64; omega
    obtain ⟨n, hn⟩ : ∃ n, n = N / 2 ^ (7 * i) := ⟨_, rfl⟩
    have hp : 0 < 2 ^ (7 * i) := Nat.pow_pos (by decide)
    have hsplit : N % 2 ^ (7 * i) + n * 2 ^ (7 * i) = N := by have h := Nat.mod_add_div N (2 ^ (7 * i)); rw [hn, Nat.mul_comm (N / 2 ^ (7 * i))]; exact h
    have hp63 : 2 ^ (7 * i) ≤ 9223372036854775808 := Nat.le_trans (Nat.pow_le_pow_right (by decide) (show 7 * i ≤ 63 from Nat.mul_le_mul_left 7 hi9)) (by decide)
    have hlow : N % 2 ^ (7 * i) < 2 ^ (7 * i) := Nat.mod_lt _ hp
    rw [← hn] at hd hl h0
    obtain ⟨c, tl, hv⟩ : ∃ c tl, vi n = c :: tl := by
      cases h : vi n with
      | nil => have := vi_pos n; rw [h] at this; cases this
      | cons c tl => exact ⟨c, tl, rfl⟩
    have hd2 := hd
    rw [hv] at hd2
    obtain ⟨hlt, hc, hd3⟩ := at_drop hd2
    have hc256 := c.toNat_lt
    have eb : IntKind.u64.wrap (bt r (i : Int)) = (c.toNat : Int) := by rw [bt_nat r i hlt, hc, wraps_u64 _ (by omega) (by omega)]
    have hilt : (i : Int) < (r.size : Int) := Int.ofNat_lt.2 hlt
    rw [eK1, samphireref08_number.l0, if_pos hilt, decide_eq_true hi10, eK2, samphireref08_number.j1, if_pos rfl, if_pos hi0, if_pos hilt, ew, eb]
    by_cases hs : n < 128
    · rw [vi_small hs] at hv hl
      obtain ⟨hv1, hv2⟩ := List.cons.inj hv
      have hcn : c.toNat = n := by rw [← hv1, u8_nat (by omega)]
      have em : Int.tmod (c.toNat : Int) 128 * ((2 ^ (7 * i) : Nat) : Int) = ((n * 2 ^ (7 * i) : Nat) : Int) := by
        rw [hcn, Int.tmod_eq_emod_of_nonneg (by omega), show (n : Int) % 128 = (n : Int) by omega]; push_cast; rfl
      have hle : n * 2 ^ (7 * i) ≤ N := by omega
      obtain ⟨B, hB⟩ : ∃ B, 2 ^ (7 * i) = B := ⟨_, rfl⟩
      rw [hB] at em hle hlow hsplit ⊢
      clear hp63 hp hB ih
      rw [em, wraps_u64 ((n * B : Nat) : Int) (by omega) (by omega), show ((N % B : Nat) : Int) + ((n * B : Nat) : Int) = (N : Int) by omega, wraps_u64 (N : Int) (by omega) (by omega)]
      obtain ⟨t, ht, ht2⟩ := refnum_k (K + 2 * d + 12) N hK10 hN
      have hlen : (vi N).length = i + 1 := hl
      rw [if_pos (by omega), ht, Option.bind_some, if_pos (by omega), if_pos (by omega), if_pos ?_, hlen]
      rw [ByteArray.toList_eq, ByteArray.toList_eq, extract_list, ht2, hr, Int.toNat_natCast, ← hlen, List.take_left]
    · rw [vi_big hs] at hv hl
      obtain ⟨hv1, hv2⟩ := List.cons.inj hv
      have hcn : c.toNat = n % 128 + 128 := by rw [← hv1, u8_nat (by omega)]
      have h8 : i ≤ 8 := by
        rcases Nat.lt_or_ge i 9 with h | h
        · omega
        · have := (pow_top (n := n) (i := i) (by omega) h (by omega)).2; omega
      have hp56 : 2 ^ (7 * i) ≤ 72057594037927936 := Nat.le_trans (Nat.pow_le_pow_right (by decide) (show 7 * i ≤ 56 by omega)) (by decide)
      have em : Int.tmod (c.toNat : Int) 128 * ((2 ^ (7 * i) : Nat) : Int) = ((n % 128 * 2 ^ (7 * i) : Nat) : Int) := by
        rw [hcn, Int.tmod_eq_emod_of_nonneg (by omega), show (((n % 128 + 128 : Nat) : Int)) % 128 = ((n % 128 : Nat) : Int) by omega]; push_cast; rfl
      have hst := pow_step n i
      have hP : (2 : Nat) ^ (7 * (i + 1)) = 2 ^ (7 * i) * 128 := by rw [show 7 * (i + 1) = 7 * i + 7 by omega, Nat.pow_add]
      have hdiv : N / 2 ^ (7 * (i + 1)) = n / 128 := by rw [hP, ← Nat.div_div_eq_div_mul, ← hn]
      have hmod : N % 2 ^ (7 * (i + 1)) = N % 2 ^ (7 * i) + n % 128 * 2 ^ (7 * i) := by
        rw [hP, Nat.mod_mul, ← hn, Nat.mul_comm (2 ^ (7 * i))]
      have hle : n % 128 * 2 ^ (7 * i) ≤ N := by
        have : n % 128 * 2 ^ (7 * i) ≤ n * 2 ^ (7 * i) := Nat.mul_le_mul_right _ (by omega)
        omega
      have hle2 : N % 2 ^ (7 * i) + n % 128 * 2 ^ (7 * i) ≤ N := by rw [← hmod]; exact Nat.mod_le _ _
      have h2 := ih (i + 1) K hnext (by rw [hdiv, hd3, hv2]; rfl) (by rw [hdiv, hl, List.length_cons]; omega) (.inl (by rw [hdiv]; omega))
      rw [hmod, hP] at h2
      rw [if_neg (by omega), em]
      obtain ⟨B, hB⟩ : ∃ B, 2 ^ (7 * i) = B := ⟨_, rfl⟩
      rw [hB] at em hle hle2 hp56 h2 ⊢
      clear hp63 hp hst hP hdiv hmod hlow hsplit hB ih
      rw [wraps_u64 ((n % 128 * B : Nat) : Int) (by omega) (by omega), show ((N % B : Nat) : Int) + ((n % 128 * B : Nat) : Int) = ((N % B + n % 128 * B : Nat) : Int) by omega, wraps_u64 ((N % B + n % 128 * B : Nat) : Int) (by omega) (by omega), show (B : Int) * 128 = ((B * 128 : Nat) : Int) by omega, wraps_u64 ((B * 128 : Nat) : Int) (by omega) (by omega)]
      exact h2
theorem refread_f (r : ByteArray) (K N : Nat) (rest : List UInt8) (hz : r.size ≤ 140737488351232) (hN : N < 18446744073709551616) (hr : r.data.toList = vi N ++ rest) (hK : 40 ≤ K) : samphireref08_number.f K r = some ((N : Int), ((vi N).length : Int)) := by
  have h := refread_vi r hz N rest hN hr 10 0 (K - 32) (by omega) (by simpa using hr) (by simp) (.inr rfl)
  rw [show K - 32 + 2 * 10 + 12 = K by omega] at h
  simpa [samphireref08_number.f, Nat.mod_one] using h
theorem refread_ok (r : ByteArray) (K : Nat) (hz : r.size ≤ 140737488351232) (hK : 40 ≤ K) : ∃ res, samphireref08_number.f K r = some res ∧ NumOk r res := by
  have h := refread_any r hz 10 0 (K - 32) 0 1 (by omega)
  rw [show K - 32 + 2 * 10 + 12 = K by omega] at h
  exact h
end Go.Proofs.Ytjmcdnhbiamokaa.Pure
