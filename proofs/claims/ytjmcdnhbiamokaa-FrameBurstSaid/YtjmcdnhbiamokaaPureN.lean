/- Numbers of seven bits a byte, and what is read of them: over lists, with no program in sight but the plain functions of the walks. -/
import Derived.Test.YtjmcdnhbiamokaaM
namespace Go.Proofs.Ytjmcdnhbiamokaa.Pure
open Go.RowKit
set_option linter.unusedVariables false
/-- A number, seven bits a byte, the lowest first. -/
def vi (n : Nat) : List UInt8 := if h : n < 128 then [UInt8.ofNat n] else UInt8.ofNat (n % 128 + 128) :: vi (n / 128)
termination_by n
decreasing_by omega
theorem vi_small {n : Nat} (h : n < 128) : vi n = [UInt8.ofNat n] := by rw [vi, dif_pos h]
theorem vi_big {n : Nat} (h : ¬ n < 128) : vi n = UInt8.ofNat (n % 128 + 128) :: vi (n / 128) := by rw [vi, dif_neg h]
theorem u8_nat {n : Nat} (h : n < 256) : (UInt8.ofNat n).toNat = n := by simp [UInt8.toNat_ofNat', Nat.mod_eq_of_lt h]
theorem vi_pos (n : Nat) : 0 < (vi n).length := by
  by_cases h : n < 128
  · simp [vi_small h]
  · simp [vi_big h]
theorem at_drop {s : ByteArray} {a : Nat} {c : UInt8} {t : List UInt8} (h : s.data.toList.drop a = c :: t) : ∃ ha : a < s.size, s[a] = c ∧ s.data.toList.drop (a + 1) = t := by
  have ha : a < s.data.toList.length := by
    rcases Nat.lt_or_ge a s.data.toList.length with h1 | h1
    · exact h1
    · rw [List.drop_eq_nil_of_le h1] at h; cases h
  have h2 := List.drop_eq_getElem_cons ha
  rw [h] at h2
  injection h2 with h3 h4
  refine ⟨by simpa using ha, ?_, h4.symm⟩
  rw [h3]; rfl
theorem drop_at {s : ByteArray} {a : Nat} (ha : a < s.size) : s.data.toList.drop a = s[a] :: s.data.toList.drop (a + 1) := by
  have ha' : a < s.data.toList.length := by simpa using ha
  rw [List.drop_eq_getElem_cons ha']; rfl
theorem pow_top {n i : Nat} (h : n * 2 ^ (7 * i) < 18446744073709551616) (hi : 9 ≤ i) (hn : 0 < n) : i = 9 ∧ n ≤ 1 := by
  rcases Nat.lt_or_ge i 10 with h1 | h1
  · obtain rfl : i = 9 := by omega
    have : (2 : Nat) ^ (7 * 9) = 9223372036854775808 := by decide
    rw [this] at h
    exact ⟨rfl, by omega⟩
  · have h2 : (2 : Nat) ^ 70 ≤ 2 ^ (7 * i) := Nat.pow_le_pow_right (by decide) (by omega)
    have h3 : 1 * 2 ^ (7 * i) ≤ n * 2 ^ (7 * i) := Nat.mul_le_mul_right _ hn
    have h4 : (2 : Nat) ^ 70 = 1180591620717411303424 := by decide
    omega
theorem pow_step (n i : Nat) : n % 128 * 2 ^ (7 * i) + n / 128 * 2 ^ (7 * (i + 1)) = n * 2 ^ (7 * i) := by
  rw [show 7 * (i + 1) = 7 + 7 * i by omega, Nat.pow_add, ← Nat.mul_assoc, ← Nat.add_mul]
  congr 1
  have : (2 : Nat) ^ 7 = 128 := by decide
  rw [this]; omega
theorem nget_vi (s : ByteArray) : ∀ f a n i o rest, s.data.toList.drop a = vi n ++ rest → (0 < n ∨ i = 0) → n * 2 ^ (7 * i) < 18446744073709551616 → i + f = 10 →
    nget s a i o f = some (o + n * 2 ^ (7 * i), a + (vi n).length) := by
  intro f
  induction f with
  | zero =>
    intro a n i o rest h hn hp hi
    have := pow_top hp (by omega) (by omega)
    omega
  | succ f ih =>
    intro a n i o rest h hn hp hi
    by_cases hs : n < 128
    · rw [vi_small hs] at h ⊢
      obtain ⟨ha, hc, hd⟩ := at_drop h
      have hc' : s[a].toNat = n := by rw [hc, u8_nat (by omega)]
      have h1 : i < 9 ∨ s[a].toNat ≤ 1 := by
        rw [hc']
        rcases Nat.lt_or_ge i 9 with h1 | h1
        · exact .inl h1
        · rcases Nat.eq_zero_or_pos n with h2 | h2
          · exact .inr (by omega)
          · exact .inr (pow_top hp h1 h2).2
      rw [nget_last s a i o f ha h1 (by rw [hc']; exact hs) (by rw [hc']; exact hn), hc', Nat.mod_eq_of_lt hs]
      rfl
    · rw [vi_big hs] at h ⊢
      obtain ⟨ha, hc, hd⟩ := at_drop h
      have hc' : s[a].toNat = n % 128 + 128 := by rw [hc, u8_nat (by omega)]
      have h9 : i < 9 := by
        rcases Nat.lt_or_ge i 9 with h1 | h1
        · exact h1
        · have := pow_top hp h1 (by omega); omega
      have hst := pow_step n i
      rw [nget_on s a i o f ha (.inl h9) (by rw [hc']; omega), hc', ih (a + 1) (n / 128) (i + 1) _ rest hd (.inl (by omega)) (by omega) (by omega)]
      rw [show (n % 128 + 128) % 128 = n % 128 by omega, List.length_cons]
      congr 2
      · omega
      · omega
theorem nget_inv (s : ByteArray) : ∀ f a i o v b, nget s a i o f = some (v, b) → i + f = 10 → i < 10 →
    ∃ n rest, s.data.toList.drop a = vi n ++ rest ∧ v = o + n * 2 ^ (7 * i) ∧ b = a + (vi n).length ∧ (0 < n ∨ i = 0) := by
  intro f
  induction f with
  | zero => intro a i o v b h hi hi2; omega
  | succ f ih =>
    intro a i o v b h hi hi2
    by_cases ha : a < s.size
    · by_cases h1 : i < 9 ∨ s[a].toNat ≤ 1
      · by_cases h2 : s[a].toNat < 128
        · by_cases h3 : 0 < s[a].toNat ∨ i = 0
          · rw [nget_last s a i o f ha h1 h2 h3] at h
            simp only [Option.some.injEq, Prod.mk.injEq] at h
            obtain ⟨rfl, rfl⟩ := h
            refine ⟨s[a].toNat, s.data.toList.drop (a + 1), ?_, by rw [Nat.mod_eq_of_lt h2], by rw [vi_small h2]; rfl, h3⟩
            rw [vi_small h2, drop_at ha]; simp
          · rw [nget_zero s a i o f ha h1 h2 h3] at h; cases h
        · rw [nget_on s a i o f ha h1 h2] at h
          have h9 : i < 9 := by omega
          obtain ⟨n, rest, hd, rfl, rfl, hn⟩ := ih (a + 1) (i + 1) _ v b h (by omega) (by omega)
          have hc := s[a].toNat_lt
          have hn0 : 0 < n := by omega
          have hm : ¬ n * 128 + s[a].toNat % 128 < 128 := by omega
          have e1 : (n * 128 + s[a].toNat % 128) / 128 = n := by omega
          have e2 : (n * 128 + s[a].toNat % 128) % 128 = s[a].toNat % 128 := by omega
          have hst := pow_step (n * 128 + s[a].toNat % 128) i
          rw [e1, e2] at hst
          refine ⟨n * 128 + s[a].toNat % 128, rest, ?_, by omega, by rw [vi_big hm, e1, List.length_cons]; omega, .inl (by omega)⟩
          rw [vi_big hm, e1, e2, drop_at ha, hd, show s[a].toNat % 128 + 128 = s[a].toNat by omega]; simp
      · rw [nget_big s a i o f ha h1] at h; cases h
    · rw [nget_end s a i o f ha] at h; cases h
/-- A number is read just where it is written. -/
theorem numF_vi {s : ByteArray} {a n most : Nat} {rest : List UInt8} (h : s.data.toList.drop a = vi n ++ rest) (hm : n ≤ most) (hn : n < 18446744073709551616) : numF s a most = some (n, a + (vi n).length) := by
  have h1 := nget_vi s 10 a n 0 0 rest h (.inr rfl) (by simpa using hn) (by omega)
  simp only [Nat.mul_zero, Nat.pow_zero, Nat.mul_one, Nat.zero_add] at h1
  unfold numF
  rw [h1]
  simp [hm]
theorem numF_inv {s : ByteArray} {a most v b : Nat} (h : numF s a most = some (v, b)) : v ≤ most ∧ b = a + (vi v).length ∧ ∃ rest, s.data.toList.drop a = vi v ++ rest := by
  unfold numF at h
  cases hn : nget s a 0 0 10 with
  | none => rw [hn] at h; cases h
  | some r =>
    obtain ⟨v', b'⟩ := r
    rw [hn] at h
    simp only [Option.bind_some] at h
    split at h
    · rename_i hv
      simp only [Option.some.injEq, Prod.mk.injEq] at h
      obtain ⟨rfl, rfl⟩ := h
      obtain ⟨n, rest, hd, rfl, rfl, _⟩ := nget_inv s 10 a 0 0 _ _ hn (by omega) (by omega)
      simp only [Nat.mul_zero, Nat.pow_zero, Nat.mul_one, Nat.zero_add] at hv ⊢
      exact ⟨hv, trivial, rest, hd⟩
    · cases h
/-- A text is read just where it is written. -/
theorem textF_vi {s p : ByteArray} {a most : Nat} {rest : List UInt8} (h : s.data.toList.drop a = vi p.size ++ (p.data.toList ++ rest)) (hm : p.size ≤ most) (hn : p.size < 18446744073709551616) :
    textF s a most = some (p, a + (vi p.size).length + p.size) := by
  have hl := congrArg List.length h
  simp only [List.length_drop, List.length_append, Array.length_toList] at hl
  have hp := vi_pos p.size
  have e1 : s.data.size = s.size := rfl
  have e2 : p.data.size = p.size := rfl
  have hq : p.size ≤ min most s.size := by omega
  unfold textF
  rw [numF_vi h hq hn, Option.bind_some, if_pos (by dsimp only; omega)]
  dsimp only
  congr 2
  apply ByteArray.ext
  apply Array.toList_inj.1
  have h2 := congrArg (List.drop (vi p.size).length) h
  rw [List.drop_drop, List.drop_left] at h2
  rw [ByteArray.data_extract, Array.toList_extract, List.extract_eq_take_drop, h2, show a + (vi p.size).length + p.size - (a + (vi p.size).length) = p.size by omega, ← e2]
  have : p.data.size = p.data.toList.length := by simp
  rw [this, List.take_left]
theorem textF_inv {s p : ByteArray} {a most b : Nat} (h : textF s a most = some (p, b)) : p.size ≤ most ∧ b = a + (vi p.size).length + p.size ∧ b ≤ s.size ∧ ∃ rest, s.data.toList.drop a = vi p.size ++ (p.data.toList ++ rest) := by
  obtain ⟨v, c, hN, hvc, rfl, rfl⟩ := textF_some h
  obtain ⟨hv, rfl, rest, hd⟩ := numF_inv hN
  have hz : (s.extract (a + (vi v).length) (a + (vi v).length + v)).size = v := by rw [ByteArray.size_extract]; omega
  rw [hz]
  refine ⟨by omega, rfl, hvc, rest.drop v, ?_⟩
  rw [hd]
  congr 1
  have h2 := congrArg (List.drop (vi v).length) hd
  rw [List.drop_drop, List.drop_left] at h2
  rw [ByteArray.data_extract, Array.toList_extract, List.extract_eq_take_drop, h2, show a + (vi v).length + v - (a + (vi v).length) = v by omega, List.take_append_drop]
end Go.Proofs.Ytjmcdnhbiamokaa.Pure
