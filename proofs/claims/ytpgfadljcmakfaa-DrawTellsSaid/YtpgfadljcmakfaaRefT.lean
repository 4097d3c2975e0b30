/- The document's naturals and draws, over lists. -/
import Derived.Test.YtpgfadljcmakfaaTx7
import Derived.Test.YtpgfadljcmakfaaTx8
import Derived.Test.YtpgfadljcmakfaaBelowNT
namespace Go.Proofs.Ytpgfadljcmakfaa.DrawT
open Go.RowKit Go.Proofs.Ytpgfadljcmakfaa.Q Go.Proofs.Ytpgfadljcmakfaa.T Go.Proofs.YtpgfadljcmakfaaW.PrintWords Go.Proofs.YtpgfadljcmakfaaW.PrintLast
open Go.Proofs.Ytpgfadljcmakfaa.Limb (I I_length I_cons I_nil I_append I_snoc I_take I_drop I_set I_replicate rd_I val Dig limbs limbs_zero val_limbs limbs_dig limbs_len val_append val_take_succ take_succ_getD val_zeros val_lt)
open Go.Proofs.Ytpgfadljcmakfaa.NatT (succ_of inc64 add64 cmp cmp_top)
set_option linter.unusedVariables false
set_option exponentiation.threshold 4096
/-- Half a limb. -/
def hf (xs : List Nat) (i : Nat) : Nat := if i % 2 = 0 then xs.getD (i / 2) 0 % 65536 else xs.getD (i / 2) 0 / 65536
def halves (xs : List Nat) (n : Nat) : List Nat := (List.range n).map (hf xs)
theorem halves_len (xs : List Nat) (n : Nat) : (halves xs n).length = n := by simp [halves]
theorem halves_succ (xs : List Nat) (n : Nat) : halves xs (n + 1) = halves xs n ++ [hf xs n] := by simp [halves, List.range_succ]
theorem hf_lt (xs : List Nat) (hd : Dig 4294967296 xs) (i : Nat) : hf xs i < 65536 := by
  have := hd.getD (by decide) (i / 2)
  unfold hf; split <;> omega
theorem halves_dig (xs : List Nat) (hd : Dig 4294967296 xs) (n : Nat) : Dig 65536 (halves xs n) := by
  intro x hx
  simp only [halves, List.mem_map] at hx
  obtain ⟨i, _, rfl⟩ := hx
  exact hf_lt xs hd i
theorem halves_getD (xs : List Nat) (n i : Nat) (h : i < n) : (halves xs n).getD i 0 = hf xs i := by
  rw [List.getD_eq_getElem?_getD]; simp [halves, h]
theorem halves_val2 (xs : List Nat) (hd : Dig 4294967296 xs) : ∀ n, val 65536 (halves xs (2 * n)) = val 4294967296 (xs.take n) := by
  intro n
  induction n with
  | zero => rfl
  | succ n ih =>
    rw [show 2 * (n + 1) = 2 * n + 1 + 1 by omega, halves_succ, halves_succ, val_append, val_append, ih, List.length_append, halves_len]
    have h1 : hf xs (2 * n) = xs.getD n 0 % 65536 := by unfold hf; rw [if_pos (by omega), show 2 * n / 2 = n by omega]
    have h2 : hf xs (2 * n + 1) = xs.getD n 0 / 65536 := by unfold hf; rw [if_neg (by omega), show (2 * n + 1) / 2 = n by omega]
    rw [h1, h2]
    have e1 : ∀ d, val 65536 [d] = d := fun d => by simp [val]
    rw [e1, e1]
    have ep : (65536 : Nat) ^ (2 * n) = 4294967296 ^ n := by rw [Nat.pow_mul]
    by_cases hn : n < xs.length
    · rw [val_take_succ xs n hn, List.length_singleton, Nat.pow_succ, ep]
      generalize xs.getD n 0 = d
      generalize (4294967296 : Nat) ^ n = P
      rw [Nat.add_assoc, Nat.mul_assoc, ← Nat.mul_add, show d % 65536 + 65536 * (d / 65536) = d by omega]
    · have h0 : xs.getD n 0 = 0 := by rw [List.getD_eq_getElem?_getD, List.getElem?_eq_none (by omega)]; rfl
      rw [h0, List.take_of_length_le (show xs.length ≤ n + 1 by omega), List.take_of_length_le (by omega)]
      simp
theorem halves_val (xs : List Nat) (hd : Dig 4294967296 xs) (n : Nat) (h : xs.length ≤ n) : val 65536 (halves xs (2 * n)) = val 4294967296 xs := by
  rw [halves_val2 xs hd n, List.take_of_length_le h]
theorem half_loop (xs : List Nat) (hd : Dig 4294967296 xs) (n : Nat) (hn : n < 1000000) (m : Nat) : ∀ (k i : Nat), i + m = n → m < k → samphireref02_Half.l0 k (I xs) (n : Int) (I (halves xs i)) (i : Int) = some (I (halves xs n)) := by
  induction m with
  | zero =>
    intro k i hi hk
    obtain ⟨k, rfl, hk⟩ := succ_of hk
    rw [samphireref02_Half.l0, if_neg (by omega), show i = n by omega]
  | succ m ih =>
    intro k i hi hk
    obtain ⟨k, rfl, hk⟩ := succ_of hk
    have e1 : wrap64 (Int.tdiv (i : Int) 2) = ((i / 2 : Nat) : Int) := by rw [Int.tdiv_eq_ediv_of_nonneg (by omega)]; unfold wrap64; omega
    have e2 : Int.tmod (i : Int) 2 = ((i % 2 : Nat) : Int) := by rw [Int.tmod_eq_emod_of_nonneg (by omega)]; omega
    have hg := hd.getD (by decide) (i / 2)
    have h0 : ¬ i / 2 < xs.length → xs.getD (i / 2) 0 = 0 := fun h => by rw [List.getD_eq_getElem?_getD, List.getElem?_eq_none (by omega)]; rfl
    have hnext := ih k (i + 1) (by omega) (by omega)
    rw [halves_succ, ← I_snoc] at hnext
    have hL : (I (halves xs i)).length = i := by rw [I_length, halves_len]
    rw [samphireref02_Half.l0, if_pos (by omega), e1, e2, rd_I, hL, inc64 i (by omega)]
    have hw : IntKind.u64.wrap ((xs.getD (i / 2) 0 : Nat) : Int) = ((xs.getD (i / 2) 0 : Nat) : Int) := by rw [IntKind.wrap_u64]; omega
    have hf0 : i % 2 = 0 → hf xs i = xs.getD (i / 2) 0 % 65536 := fun h => if_pos h
    have hf1 : ¬ i % 2 = 0 → hf xs i = xs.getD (i / 2) 0 / 65536 := fun h => if_neg h
    rw [hw, I_length]
    generalize xs.getD (i / 2) 0 = d at *
    have t1 : Int.tmod (d : Int) 65536 = ((d % 65536 : Nat) : Int) := by rw [Int.tmod_eq_emod_of_nonneg (by omega)]; omega
    have t2 : IntKind.u64.wrap (Int.tdiv (d : Int) 65536) = ((d / 65536 : Nat) : Int) := by rw [Int.tdiv_eq_ediv_of_nonneg (by omega), IntKind.wrap_u64]; omega
    rw [t1, t2]
    by_cases hlt : i / 2 < xs.length
    · rw [if_pos (by omega), if_pos (by omega)]
      by_cases hp : i % 2 = 0
      · rw [if_pos (by omega), if_pos (by omega), ← hf0 hp]; exact hnext
      · rw [if_neg (by omega), if_pos (by omega), ← hf1 hp]; exact hnext
    · have hz := h0 hlt
      rw [if_neg (by omega)]
      by_cases hp : i % 2 = 0
      · rw [hf0 hp, hz] at hnext
        rw [if_pos (by omega), if_pos (by omega)]; exact hnext
      · rw [hf1 hp, hz] at hnext
        rw [if_neg (by omega), if_pos (by omega)]; exact hnext
theorem half (xs : List Nat) (hd : Dig 4294967296 xs) (n : Nat) (hn : n < 1000000) (k : Nat) (hk : n < k) : samphireref02_Half.f k (I xs) (n : Int) = some (I (halves xs n)) := by
  have := half_loop xs hd n hn n k 0 (by omega) hk
  exact this
theorem val_set (B : Nat) : ∀ (xs : List Nat) (i d : Nat), i < xs.length → val B (xs.set i d) + B ^ i * xs.getD i 0 = val B xs + B ^ i * d := by
  intro xs
  induction xs with
  | nil => intro i d h; cases h
  | cons x xs ih =>
    intro i d h
    cases i with
    | zero => simp [val]; omega
    | succ i =>
      have h2 := ih i d (by simpa using h)
      simp only [List.set_cons_succ, List.getD_cons_succ, val, Nat.pow_succ]
      have e : B ^ i * B * xs.getD i 0 = B * (B ^ i * xs.getD i 0) := by rw [Nat.mul_comm (B ^ i) B, Nat.mul_assoc]
      have e2 : B ^ i * B * d = B * (B ^ i * d) := by rw [Nat.mul_comm (B ^ i) B, Nat.mul_assoc]
      rw [e, e2, Nat.add_assoc, ← Nat.mul_add, h2, Nat.mul_add]; omega
theorem dig_set {B : Nat} {xs : List Nat} (h : Dig B xs) (i d : Nat) (hd : d < B) : Dig B (xs.set i d) := fun x hx => by
  rcases List.mem_or_eq_of_mem_set hx with h2 | h2
  · exact h x h2
  · rw [h2]; exact hd
theorem getD_set_ne (xs : List Nat) (i j d : Nat) (h : i ≠ j) : (xs.set i d).getD j 0 = xs.getD j 0 := by
  rw [List.getD_eq_getElem?_getD, List.getD_eq_getElem?_getD, List.getElem?_set_ne h]
theorem drop_val (ys : List Nat) (i : Nat) (h : i < ys.length) : val 65536 (ys.drop i) = ys.getD i 0 + 65536 * val 65536 (ys.drop (i + 1)) := by
  rw [List.drop_eq_getElem_cons h]
  have : ys.getD i 0 = ys[i] := by rw [List.getD_eq_getElem?_getD, List.getElem?_eq_getElem h]; rfl
  rw [this]; rfl
theorem sub_loop (ys : List Nat) (hy : Dig 65536 ys) (n : Nat) (hn : n < 1000000) (hyl : ys.length = n) (T K : Nat) (hK : 2 * n + 2 < K) (m : Nat) : ∀ (k i owed : Nat) (xs : List Nat), Dig 65536 xs → xs.length = n → owed ≤ 1 → i + m = n → K + m < k →
    val 65536 xs = T + 65536 ^ i * owed + 65536 ^ i * val 65536 (ys.drop i) →
    samphireref02_Sub.l0 k (n : Int) (I xs) (I ys) (owed : Int) (i : Int) = some (I (limbs T)) := by
  induction m with
  | zero =>
    intro k i owed xs hx hxl ho hi hk hT
    obtain ⟨k, rfl, hk⟩ := succ_of hk
    obtain rfl : i = n := by omega
    have hd : ys.drop i = [] := List.drop_eq_nil_of_le (by omega)
    have hlt := val_lt hx
    rw [hxl] at hlt
    rw [hd] at hT
    have h0 : owed = 0 := by
      rcases Nat.eq_zero_or_pos owed with h | h
      · exact h
      · obtain rfl : owed = 1 := by omega
        omega
    subst h0
    rw [samphireref02_Sub.l0, if_neg (by omega), whole xs hx (by omega) k (by omega), Option.bind_some, hT]
    simp [val]
  | succ m ih =>
    intro k i owed xs hx hxl ho hi hk hT
    obtain ⟨k, rfl, hk⟩ := succ_of hk
    have hxi := hx.getD (by decide) i
    have hyi := hy.getD (by decide) i
    have hset := fun d => val_set 65536 xs i d (by omega)
    have hdr := drop_val ys i (by omega)
    rw [samphireref02_Sub.l0, if_pos (by omega), if_pos (by omega), if_pos (by rw [I_length]; omega), if_pos (by rw [I_length]; omega), rd_I, rd_I, inc64 i (by omega)]
    generalize xs.getD i 0 = x at *
    generalize ys.getD i 0 = y at *
    obtain ⟨s, hs⟩ : ∃ s, s = 65536 + x - y - owed := ⟨_, rfl⟩
    have e1 : IntKind.u64.wrap (IntKind.u64.wrap (IntKind.u64.wrap (65536 + (x : Int)) - (y : Int)) - (owed : Int)) = (s : Int) := by
      rw [IntKind.wrap_u64, IntKind.wrap_u64, IntKind.wrap_u64]; omega
    have e2 : Int.tmod (s : Int) 65536 = ((s % 65536 : Nat) : Int) := by rw [Int.tmod_eq_emod_of_nonneg (by omega)]; omega
    have e3 : IntKind.u64.wrap (1 - IntKind.u64.wrap (Int.tdiv (s : Int) 65536)) = ((1 - s / 65536 : Nat) : Int) := by
      rw [Int.tdiv_eq_ediv_of_nonneg (by omega), IntKind.wrap_u64, IntKind.wrap_u64]; omega
    rw [e1, e2, e3, Int.toNat_natCast, I_set]
    have h1 := hset (s % 65536)
    have hw : s % 65536 + y + owed = x + 65536 * (1 - s / 65536) := by omega
    have h3 := ih k (i + 1) (1 - s / 65536) (xs.set i (s % 65536)) (dig_set hx i _ (Nat.mod_lt _ (by decide))) (by rw [List.length_set]; exact hxl) (by omega) (by omega) (by omega) (by
      rw [hdr, Nat.mul_add] at hT
      have h2 : 65536 ^ i * (s % 65536 + y + owed) = 65536 ^ i * (x + 65536 * (1 - s / 65536)) := by rw [hw]
      rw [Nat.mul_add, Nat.mul_add, Nat.mul_add] at h2
      rw [Nat.pow_succ, Nat.mul_assoc, Nat.mul_assoc]
      omega)
    exact h3
theorem sub_one (n : Nat) (h0 : 0 < n) (hl : (limbs n).length ≤ 64) (k : Nat) (hk : 600 < k) : samphireref02_Sub.f k (I (limbs n)) [1] = some (I (limbs (n - 1))) := by
  obtain ⟨m, hm⟩ : ∃ m, m = (limbs n).length := ⟨_, rfl⟩
  have hm0 : 0 < m := by have := Limb.limbs_ne_nil n (by omega); omega
  have e1 : wrap64 (2 * ((I (limbs n)).length : Int)) = ((2 * m : Nat) : Int) := by rw [I_length]; unfold wrap64; omega
  have h1d : Dig 4294967296 [1] := by
    intro x hx
    simp at hx
    omega
  have va := halves_val (limbs n) (limbs_dig n) m (by omega)
  have vb := halves_val [1] h1d m (show [1].length ≤ m from hm0)
  rw [val_limbs] at va
  unfold samphireref02_Sub.f
  rw [e1, half _ (limbs_dig n) _ (by omega) k (by omega), Option.bind_some]
  have hh := half [1] h1d (2 * m) (by omega) k (by omega)
  have hh' : samphireref02_Half.f k [1] ((2 * m : Nat) : Int) = some (I (halves [1] (2 * m))) := hh
  rw [hh', Option.bind_some]
  exact sub_loop (halves [1] (2 * m)) (halves_dig _ h1d _) (2 * m) (by omega) (halves_len _ _) (n - 1) 300 (by omega) (2 * m) k 0 0 (halves (limbs n) (2 * m)) (halves_dig _ (limbs_dig n) _) (halves_len _ _) (by omega) (by omega) (by omega)
    (by rw [List.drop_zero, va, vb]; simp [val]; omega)
theorem rorder_loop (xs ys : List Nat) (hx : Dig 4294967296 xs) (hy : Dig 4294967296 ys) (hl : xs.length = ys.length) (hm : xs.length < 9223372036854775807) (n : Nat) : ∀ k, n ≤ xs.length → n < k →
    samphireref02_Cmp.l0 k (I xs) (I ys) ((n : Int) - 1) = some (cmp (val 4294967296 (xs.take n)) (val 4294967296 (ys.take n))) := by
  induction n with
  | zero =>
    intro k _ hk
    obtain ⟨k, rfl, hk⟩ := succ_of hk
    rw [samphireref02_Cmp.l0]
    exact iff_ (by omega) rfl
  | succ n ih =>
    intro k hn hk
    obtain ⟨k, rfl, hk⟩ := succ_of hk
    rw [samphireref02_Cmp.l0, show ((n + 1 : Nat) : Int) - 1 = (n : Int) by omega, I_length, I_length, rd_I, rd_I]
    refine ift (by omega) (ift (by omega) (ift (by omega) (ift (by omega) ?_)))
    rw [val_take_succ xs n (by omega), val_take_succ ys n (by omega)]
    have e1 : val 4294967296 (xs.take n) < 4294967296 ^ n := by have := val_lt (hx.take n); rwa [List.length_take, Nat.min_eq_left (by omega)] at this
    have e2 : val 4294967296 (ys.take n) < 4294967296 ^ n := by have := val_lt (hy.take n); rwa [List.length_take, Nat.min_eq_left (by omega)] at this
    rw [cmp_top e1 e2]
    by_cases h0 : xs.getD n 0 = ys.getD n 0
    · rw [if_pos (by omega), if_neg (by omega), if_neg (by omega), show wrap64 ((n : Int) - 1) = (n : Int) - 1 by unfold wrap64; omega]
      exact ih k (by omega) (by omega)
    · rw [if_neg (by omega)]
      by_cases h1 : xs.getD n 0 < ys.getD n 0
      · rw [if_pos (by omega), if_pos h1]
      · rw [if_neg (by omega), if_neg h1, if_pos (by omega)]
theorem rcmp (a b : Nat) (ha : (limbs a).length < 1000000) (hb : (limbs b).length < 1000000) (k : Nat) (hk : (limbs a).length < k) : samphireref02_Cmp.f k (I (limbs a)) (I (limbs b)) = some (cmp a b) := by
  unfold samphireref02_Cmp.f
  rw [I_length, I_length]
  by_cases h : (limbs a).length = (limbs b).length
  · rw [if_pos (by omega), show wrap64 (((limbs a).length : Int) - 1) = ((limbs a).length : Int) - 1 by unfold wrap64; omega]
    rw [rorder_loop _ _ (limbs_dig a) (limbs_dig b) h (by omega) _ k (Nat.le_refl _) hk, List.take_length, h, List.take_length, val_limbs, val_limbs]
  · rw [if_neg (by omega)]
    rcases Nat.lt_or_gt_of_ne h with h1 | h1
    · have h2 := (limbs_len a (limbs a).length).1 (Nat.le_refl _)
      have h3 : ¬ b < 4294967296 ^ (limbs a).length := fun h4 => by have := (limbs_len b _).2 h4; omega
      rw [if_pos (by omega), cmp, if_pos (by omega)]
    · have h2 := (limbs_len b (limbs b).length).1 (Nat.le_refl _)
      have h3 : ¬ a < 4294967296 ^ (limbs b).length := fun h4 => by have := (limbs_len a _).2 h4; omega
      rw [if_neg (by omega), cmp, if_neg (by omega), if_pos (by omega)]
theorem rnumber_loop (xs : List Nat) (hx : Dig 4294967296 xs) (hl : xs.length ≤ 2) (n : Nat) : ∀ (k : Nat) (acc : Nat), n ≤ xs.length → n < k → acc * 4294967296 ^ n + val 4294967296 (xs.take n) < 18446744073709551616 →
    samphireref07_Number.l0 k (I xs) (acc : Int) ((n : Int) - 1) = some ((acc * 4294967296 ^ n + val 4294967296 (xs.take n) : Nat) : Int) := by
  induction n with
  | zero =>
    intro k acc _ hk h
    obtain ⟨k, rfl, hk⟩ := succ_of hk
    rw [samphireref07_Number.l0, if_neg (by omega)]
    simp [val]
  | succ n ih =>
    intro k acc hn hk h
    obtain ⟨k, rfl, hk⟩ := succ_of hk
    have hd := hx.getD (by decide) n
    rw [val_take_succ xs n (by omega)] at h ⊢
    have e : acc * 4294967296 ^ (n + 1) + (val 4294967296 (xs.take n) + 4294967296 ^ n * xs.getD n 0) = (4294967296 * acc + xs.getD n 0) * 4294967296 ^ n + val 4294967296 (xs.take n) := by
      rw [Nat.pow_succ, Nat.add_mul, Nat.mul_comm (4294967296 ^ n) 4294967296, ← Nat.mul_assoc, Nat.mul_comm acc 4294967296, Nat.mul_comm (xs.getD n 0)]; omega
    rw [e] at h ⊢
    have hacc : 4294967296 * acc + xs.getD n 0 < 18446744073709551616 := by
      have : (4294967296 * acc + xs.getD n 0) * 1 ≤ (4294967296 * acc + xs.getD n 0) * 4294967296 ^ n := Nat.mul_le_mul_left _ (Nat.pow_pos (by decide))
      omega
    rw [samphireref07_Number.l0, show ((n + 1 : Nat) : Int) - 1 = (n : Int) by omega, if_pos (by omega), if_pos (by omega), if_pos (by rw [I_length]; omega), rd_I]
    have ew : IntKind.u64.wrap (IntKind.u64.wrap (4294967296 * (acc : Int)) + IntKind.u64.wrap ((xs.getD n 0 : Nat) : Int)) = ((4294967296 * acc + xs.getD n 0 : Nat) : Int) := by
      rw [IntKind.wrap_u64, IntKind.wrap_u64, IntKind.wrap_u64]; omega
    rw [ew, show wrap64 ((n : Int) - 1) = (n : Int) - 1 by unfold wrap64; omega]
    exact ih k _ (by omega) (by omega) h
theorem rnumber (v : Nat) (h : v < 18446744073709551616) (k : Nat) (hk : 5 < k) : samphireref07_Number.f k (I (limbs v)) = some (v : Int) := by
  have hl : (limbs v).length ≤ 2 := (limbs_len v 2).2 (Nat.lt_of_lt_of_le h (by decide))
  unfold samphireref07_Number.f
  rw [I_length, show wrap64 (((limbs v).length : Int) - 1) = ((limbs v).length : Int) - 1 by unfold wrap64; omega]
  have := rnumber_loop (limbs v) (limbs_dig v) hl (limbs v).length k 0 (Nat.le_refl _) (by omega) (by rw [List.take_length, val_limbs]; omega)
  rw [List.take_length, val_limbs] at this
  simpa using this
end Go.Proofs.Ytpgfadljcmakfaa.DrawT
