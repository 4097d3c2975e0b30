/- The document's draws, over lists. -/
import Derived.Test.YtpgfadljcmakfaaRefT
namespace Go.Proofs.Ytpgfadljcmakfaa.DrawT
open Go.RowKit Go.Proofs.Ytpgfadljcmakfaa.Q Go.Proofs.Ytpgfadljcmakfaa.T Go.Proofs.YtpgfadljcmakfaaW.PrintWords Go.Proofs.YtpgfadljcmakfaaW.PrintLast
open Go.Proofs.Ytpgfadljcmakfaa.Limb (I I_length I_cons I_nil I_append I_snoc I_take I_drop I_set I_replicate rd_I val Dig limbs limbs_zero val_limbs limbs_dig limbs_len val_append val_take_succ take_succ_getD val_zeros val_lt)
open Go.Proofs.Ytpgfadljcmakfaa.NatT (succ_of inc64 add64 cmp cmp_top)
set_option linter.unusedVariables false
set_option exponentiation.threshold 4096
/-- The bits of a limb that were gone through so far. -/
def accF (a i d j : Nat) : Nat := if d % 2 ^ j = 0 then a else 32 * i + blen (d % 2 ^ j)
theorem mod_succ2 (d j : Nat) : d % 2 ^ (j + 1) = d % 2 ^ j + 2 ^ j * (d / 2 ^ j % 2) := by
  rw [Nat.pow_succ, Nat.mod_mul]
theorem rbits_inner (xs : List Nat) (hd : Dig 4294967296 xs) (i : Nat) (hi : i < xs.length) (hl : xs.length ≤ 64) (a : Nat) (ha : a ≤ 4096) : ∀ (m j K : Nat), j + m = 32 →
    samphireref02_Bits.l1 (K + m + 1) (I xs) ((accF a i (xs.getD i 0) j : Nat) : Int) (i : Int) (j : Int) = samphireref02_Bits.l0 K (I xs) ((accF a i (xs.getD i 0) 32 : Nat) : Int) ((i + 1 : Nat) : Int) := by
  intro m
  induction m with
  | zero =>
    intro j K hj
    obtain rfl : j = 32 := by omega
    rw [samphireref02_Bits.l1, if_neg (by decide), inc64 i (by omega)]
  | succ m ih =>
    intro j K hj
    have hg := hd.getD (by decide) i
    have hnext := ih (j + 1) K (by omega)
    have c1 : (j : Int) < 32 := by omega
    have c2 : (i : Int) < ((I xs).length : Int) := by rw [I_length]; omega
    have ej : IntKind.u64.wrap (j : Int) = (j : Int) := by rw [IntKind.wrap_u64]; omega
    rw [show K + (m + 1) + 1 = (K + m + 1) + 1 by omega, samphireref02_Bits.l1, if_pos c1, if_pos (Int.natCast_nonneg _), if_pos c2, ej, if_pos (Int.natCast_nonneg _), rd_I, inc64 j (by omega)]
    generalize xs.getD i 0 = d at *
    have es : Int.tmod (shr .u32 (d : Int) (j : Int)) 2 = ((d / 2 ^ j % 2 : Nat) : Int) := by
      have : shr .u32 (d : Int) (j : Int) = ((d / 2 ^ j : Nat) : Int) := by
        unfold shr
        rw [Int.toNat_natCast, Nat.min_eq_left (show j ≤ IntKind.u32.bits from by show j ≤ 32; omega)]
        simp
      rw [this, Int.tmod_eq_emod_of_nonneg (Int.natCast_nonneg _)]
      generalize d / 2 ^ j = z
      omega
    rw [es]
    have hm := mod_succ2 d j
    have hlow : d % 2 ^ j < 2 ^ j := Nat.mod_lt _ (Nat.two_pow_pos j)
    by_cases hb : d / 2 ^ j % 2 = 1
    · rw [hb, Nat.mul_one] at hm
      have hbl : blen (d % 2 ^ (j + 1)) = j + 1 := blen_eq _ j (by omega) (Nat.mod_lt _ (Nat.two_pow_pos _))
      have hacc : accF a i d (j + 1) = 32 * i + (j + 1) := by
        have hp := Nat.two_pow_pos j
        unfold accF
        rw [if_neg (by omega), hbl]
      rw [hacc] at hnext
      rw [if_pos (by omega)]
      have ew : wrap64 (wrap64 (wrap64 (32 * (i : Int)) + (j : Int)) + 1) = ((32 * i + (j + 1) : Nat) : Int) := by
        rw [show 32 * (i : Int) = ((32 * i : Nat) : Int) by omega, wrap64_nat _ (by omega), add64 _ _ (by omega), inc64 _ (by omega)]
        rfl
      rw [ew]
      exact hnext
    · have h0 : d / 2 ^ j % 2 = 0 := by omega
      have hm2 : d % 2 ^ (j + 1) = d % 2 ^ j := by rw [mod_succ2, h0]; rfl
      have hacc : accF a i d (j + 1) = accF a i d j := by unfold accF; rw [hm2]
      rw [hacc] at hnext
      rw [if_neg (by omega)]
      exact hnext
theorem blen_limbs (n : Nat) (L t : Nat) (h3 : t ≠ 0) (h5 : 4294967296 ^ L * t ≤ n) (h6 : n < 4294967296 ^ L * (t + 1)) : blen n = 32 * L + blen t := by
  have ht : blen t ≠ 0 := by unfold blen; rw [if_neg h3]; omega
  obtain ⟨b, hb⟩ : ∃ b, blen t = b + 1 := ⟨blen t - 1, by omega⟩
  have k1 : t < 2 ^ (b + 1) := hb ▸ blen_lt t
  have k2 : 2 ^ b ≤ t := by
    rcases Nat.lt_or_ge t (2 ^ b) with hlt | hge
    · have := blen_le t b hlt; omega
    · exact hge
  have e1 : (4294967296 : Nat) ^ L = 2 ^ (32 * L) := by rw [Nat.pow_mul]
  rw [e1] at h5 h6
  rw [hb, ← Nat.add_assoc]
  refine blen_eq n _ ?_ ?_
  · rw [Nat.pow_add]; exact Nat.le_trans (Nat.mul_le_mul_left _ k2) h5
  · rw [Nat.add_assoc, Nat.pow_add]; exact Nat.lt_of_lt_of_le h6 (Nat.mul_le_mul_left _ k1)
theorem rbits_outer (xs : List Nat) (hd : Dig 4294967296 xs) (hl : xs.length ≤ 64) (L t : Nat) (hL : xs.length = L + 1) (ht : xs.getD L 0 = t) (h0 : t ≠ 0) : ∀ (m i a K : Nat), i + m = L → a ≤ 4096 →
    samphireref02_Bits.l0 (K + 34 * m + 35) (I xs) (a : Int) (i : Int) = some ((32 * L + blen t : Nat) : Int) := by
  have ht32 : t < 4294967296 := ht ▸ hd.getD (by decide) L
  intro m
  induction m with
  | zero =>
    intro i a K hi ha
    obtain rfl : i = L := by omega
    have h := rbits_inner xs hd i (by omega) hl a ha 32 0 (K + 1) (by omega)
    have hs : accF a i (xs.getD i 0) 0 = a := by unfold accF; rw [Nat.pow_zero, Nat.mod_one, if_pos rfl]
    have he : accF a i (xs.getD i 0) 32 = 32 * i + blen t := by
      unfold accF
      rw [ht, show t % 2 ^ 32 = t from Nat.mod_eq_of_lt ht32, if_neg h0]
    rw [hs, he, samphireref02_Bits.l0, if_neg (by rw [I_length]; omega)] at h
    rw [show K + 34 * 0 + 35 = (K + 1 + 32 + 1) + 1 by omega, samphireref02_Bits.l0, if_pos (by rw [I_length]; omega)]
    exact h
  | succ m ih =>
    intro i a K hi ha
    have h := rbits_inner xs hd i (by omega) hl a ha 32 0 (K + 34 * m + 35) (by omega)
    have hs : accF a i (xs.getD i 0) 0 = a := by unfold accF; rw [Nat.pow_zero, Nat.mod_one, if_pos rfl]
    have hdi := hd.getD (by decide) i
    have hle : accF a i (xs.getD i 0) 32 ≤ 4096 := by
      unfold accF
      split
      · exact ha
      · have := blen_le (xs.getD i 0 % 2 ^ 32) 32 (Nat.mod_lt _ (by decide)); omega
    rw [hs, ih (i + 1) _ K (by omega) hle] at h
    rw [show K + 34 * (m + 1) + 35 = (K + 34 * m + 35 + 32 + 1) + 1 by omega, samphireref02_Bits.l0, if_pos (by rw [I_length]; omega)]
    exact h
theorem rbits (n : Nat) (hl : (limbs n).length ≤ 64) (k : Nat) (hk : 2300 < k) : samphireref02_Bits.f k (I (limbs n)) = some ((blen n : Nat) : Int) := by
  unfold samphireref02_Bits.f
  by_cases h : n = 0
  · subst h
    obtain ⟨k, rfl, _⟩ := succ_of (show 0 < k by omega)
    rw [limbs_zero, samphireref02_Bits.l0, if_neg (by decide)]; rfl
  · obtain ⟨L, t, h1, h2, h3, h4, h5, h6⟩ := limbs_top n h
    rw [blen_limbs n L t h3 h5 h6]
    have := rbits_outer (limbs n) (limbs_dig n) hl L t h1 h2 h3 L 0 0 (k - 34 * L - 35) (by omega) (by omega)
    rw [show k - 34 * L - 35 + 34 * L + 35 = k by omega] at this
    exact this
theorem rmask (n : Nat) (h0 : 0 < n) (hl : (limbs n).length ≤ 64) (k : Nat) (hk : 2300 < k) : samphireref07_mask.f k (I (limbs n)) = some ((blen (n - 1) : Nat) : Int) := by
  have hb : n < 4294967296 ^ 64 := (limbs_len n 64).1 hl
  have hl1 : (limbs (n - 1)).length ≤ 64 := (limbs_len (n - 1) 64).2 (by omega)
  unfold samphireref07_mask.f
  rw [sub_one n h0 hl k (by omega), Option.bind_some, rbits (n - 1) hl1 k hk, Option.bind_some]
/-- Halves of a word, so many bits of it. -/
def hh : Nat → Nat → Nat → List Nat
  | 0, _, _ => []
  | n + 1, w, left => (w % 65536 % 2 ^ min 16 left) :: hh n (w / 65536) (left - 16)
theorem hh_len : ∀ n w left, (hh n w left).length = n
  | 0, _, _ => rfl
  | n + 1, w, left => by rw [hh, List.length_cons, hh_len]
theorem hh_dig : ∀ n w left, Dig 65536 (hh n w left)
  | 0, _, _ => Dig.nil _
  | n + 1, w, left => Dig.cons (Nat.lt_of_le_of_lt (Nat.mod_le _ _) (Nat.mod_lt _ (by decide))) (hh_dig n _ _)
theorem hh_val : ∀ n w left, val 65536 (hh n w left) = w % 2 ^ min left (16 * n)
  | 0, w, left => by rw [hh, Nat.mul_zero, Nat.min_zero, Nat.pow_zero, Nat.mod_one]; rfl
  | n + 1, w, left => by
    rw [hh, val, hh_val n]
    by_cases hc : left ≤ 16
    · rw [show left - 16 = 0 by omega, Nat.zero_min, Nat.pow_zero, Nat.mod_one, Nat.mul_zero, Nat.add_zero, Nat.min_eq_right hc, Nat.min_eq_left (by omega)]
      exact Nat.mod_mod_of_dvd _ (show (2 : Nat) ^ left ∣ 65536 from Nat.pow_dvd_pow 2 hc)
    · rw [Nat.min_eq_left (by omega : 16 ≤ left), show (2 : Nat) ^ 16 = 65536 by decide, Nat.mod_mod]
      obtain ⟨r, hr⟩ : ∃ r, min left (16 * (n + 1)) = 16 + r := ⟨min left (16 * (n + 1)) - 16, by omega⟩
      rw [hr, show min (left - 16) (16 * n) = r by omega, Nat.pow_add, show (2 : Nat) ^ 16 = 65536 by decide, Nat.mod_mul]
/-- Halves of words. -/
def H : Nat → List Nat → List Nat
  | _, [] => []
  | left, w :: ws => hh 4 w left ++ H (left - 64) ws
theorem H_dig : ∀ ws left, Dig 65536 (H left ws)
  | [], _ => Dig.nil _
  | w :: ws, left => (hh_dig 4 w left).append (H_dig ws _)
theorem H_len : ∀ ws left, (H left ws).length = 4 * ws.length
  | [], _ => rfl
  | w :: ws, left => by rw [H, List.length_append, hh_len, H_len, List.length_cons]; omega
theorem H_val : ∀ (ws : List Nat) (left : Nat), (∀ x ∈ ws, x < 18446744073709551616) → val 65536 (H left ws) = val 4294967296 (attD left ws)
  | [], _, _ => rfl
  | w :: ws, left, h => by
    rw [H, val_append, hh_len, hh_val, H_val ws (left - 64) (fun x hx => h x (List.mem_cons_of_mem _ hx)), attD, val, val, show left - min left 64 = left - 64 by omega]
    rw [show (65536 : Nat) ^ 4 = 18446744073709551616 by decide, show 16 * 4 = 64 from rfl]
    generalize val 4294967296 (attD (left - 64) ws) = z
    generalize w % 2 ^ min left 64 = y
    omega
end Go.Proofs.Ytpgfadljcmakfaa.DrawT
