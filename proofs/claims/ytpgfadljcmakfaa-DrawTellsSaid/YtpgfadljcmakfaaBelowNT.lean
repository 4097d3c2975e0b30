/- What BelowNat tells; and the document's shortest limbs of a number of 64 bits. -/
import Derived.Test.YtpgfadljcmakfaaBelowT
import Derived.Test.YtpgfadljcmakfaaTx8
namespace Go.Proofs.Ytpgfadljcmakfaa.DrawT
open Go.RowKit Go.Proofs.Ytpgfadljcmakfaa.Q Go.Proofs.Ytpgfadljcmakfaa.T Go.Proofs.YtpgfadljcmakfaaW.PrintWords Go.Proofs.YtpgfadljcmakfaaW.PrintLast
open Go.Proofs.Ytpgfadljcmakfaa.Limb (I I_length I_cons I_nil I_append I_snoc I_take I_drop rd_I val Dig limbs limbs_zero val_limbs limbs_dig limbs_len val_append val_take_succ take_succ_getD)
open Go.Proofs.Ytpgfadljcmakfaa.NatT (succ_of pred64 inc64 add64 cmp)

set_option exponentiation.threshold 4096
/-- The first of the attempts that lies below the bound. -/
def pickN (many n : Nat) (xs : List Nat) : Nat → Nat → Option (Nat × Nat)
  | 0, _ => none
  | f + 1, at_ => if xs.length - at_ < (many + 63) / 64 then none
    else if val 18446744073709551616 ((xs.drop at_).take ((many + 63) / 64)) % 2 ^ many < n then some (val 18446744073709551616 ((xs.drop at_).take ((many + 63) / 64)) % 2 ^ many, at_ + (many + 63) / 64)
    else pickN many n xs f (at_ + (many + 63) / 64)
def told (l l0 : List Int) (a0 : Int) : Option (Nat × Nat) → List Int × List Int × Int × Int
  | some (v, j) => (I (limbs v), l, (j : Int), 0)
  | none => ([], l0, a0, 8)

theorem small_limbs (v many : Nat) (h : v < 2 ^ many) (hm : many ≤ 2048) : (limbs v).length ≤ 64 := by
  refine (limbs_len v 64).2 (Nat.lt_of_lt_of_le h ?_)
  rw [show (4294967296 : Nat) = 2 ^ 32 by decide, ← Nat.pow_mul]
  exact Nat.pow_le_pow_right (by decide) hm
theorem belowN_loop (n many : Nat) (hn : 0 < n) (hnl : (limbs n).length ≤ 64) (hm : many ≤ 2048) (h0 : many = 0 ∨ many ≠ 0) (l l0 : List Int) (a0 : Int) (xs : List Nat) (h : Words l xs) (hl : xs.length < 1152921504606) (K : Nat) (hK : 4 * xs.length + 100 < K) (f : Nat) : ∀ (k at_ : Nat), at_ ≤ xs.length → xs.length - at_ < f → f + K < k →
    draw_BelowNat.l0 k (I (limbs n)) (many : Int) l0 a0 l (at_ : Int) = some (told l l0 a0 (pickN many n xs f at_)) := by
  induction f with
  | zero => intro k at_ _ h1 _; omega
  | succ f ih =>
    intro k at_ hat hf hk
    obtain ⟨k, rfl, hk⟩ := succ_of hk
    rw [draw_BelowNat.l0]
    refine bnd (attempt l xs h at_ many hat hl (by omega) k (by omega)) ?_
    rw [pickN]
    by_cases hc : xs.length - at_ < (many + 63) / 64
    · rw [if_pos hc, if_pos hc]
      exact iff_ (by simp) rfl
    · rw [if_neg hc, if_neg hc]
      have hv : val 18446744073709551616 ((xs.drop at_).take ((many + 63) / 64)) % 2 ^ many < 2 ^ many := Nat.mod_lt _ (Nat.two_pow_pos _)
      generalize val 18446744073709551616 ((xs.drop at_).take ((many + 63) / 64)) % 2 ^ many = v at hv
      refine ift rfl (bnd (NatT.cmp_ v n (small_limbs v many hv hm) hnl k (by omega)) ?_)
      by_cases hlt : v < n
      · rw [if_pos hlt]
        refine ift (by rw [cmp, if_pos hlt]; decide) rfl
      · rw [if_neg hlt]
        refine iff_ (by rw [cmp, if_neg hlt]; split <;> decide) ?_
        have hm1 : 1 ≤ (many + 63) / 64 := by
          rcases Nat.eq_zero_or_pos many with e | e
          · subst e; rw [Nat.pow_zero] at hv; omega
          · omega
        exact ih k _ (by omega) (by omega) (by omega)
/-- What BelowNat tells of a bound that is a natural above 0. -/
theorem belowN (n many : Nat) (hn : 0 < n) (hnl : (limbs n).length ≤ 64) (hm : blen (n - 1) = many) (l : List Int) (xs : List Nat) (h : Words l xs) (hl : xs.length < 1152921504606) (at_ : Nat) (hat : at_ ≤ xs.length) (k : Nat) (hk : 5 * xs.length + 200 < k) :
    draw_BelowNat.f k l (at_ : Int) (I (limbs n)) = some (told l l (at_ : Int) (pickN many n xs (xs.length + 1) at_)) := by
  have hlen := h.length
  have hn1 : limbs (n - 1) = limbs (n - 1) := rfl
  have hb : n < 4294967296 ^ 64 := (limbs_len n 64).1 hnl
  have hl1 : (limbs (n - 1)).length ≤ 64 := (limbs_len (n - 1) 64).2 (by omega)
  have hmany : many ≤ 2048 := by
    rw [← hm]; refine blen_le _ _ ?_
    rw [show (4294967296 : Nat) = 2 ^ 32 by decide, ← Nat.pow_mul] at hb
    have : n - 1 < 2 ^ (32 * 64) := by omega
    exact this
  unfold draw_BelowNat.f
  refine bnd (NatT.right_limbs n hnl) (ift rfl (iff_ ?_ ?_))
  · rw [I_length]; have := Limb.limbs_ne_nil n (by omega); omega
  refine bnd (x := true) ?_ (ift rfl (bnd (NatT.of_ 1 (by decide) k (by omega)) (bnd (NatT.sub n 1 hn hnl ?_ k (by omega)) (bnd (bits (n - 1) hl1) ?_))))
  · unfold draw_right.f; rw [if_pos (by omega), hlen, decide_eq_true (by omega)]
  · rw [Limb.limbs_pos 1 (by decide), show 1 / 4294967296 = 0 by decide, limbs_zero]; decide
  · rw [hm]
    exact belowN_loop n many hn hnl hmany (by omega) l l _ xs h hl (4 * xs.length + 101) (by omega) (xs.length + 1) k at_ hat (by omega) (by omega)

/-- Halves two by two. -/
def pairs : List Nat → List Nat
  | [] => []
  | [h] => [h % 4294967296]
  | h :: h' :: t => (h + 65536 * h') % 4294967296 :: pairs t
theorem pairs_dig : ∀ hs : List Nat, Dig 4294967296 (pairs hs)
  | [] => Dig.nil _
  | [h] => Dig.cons (Nat.mod_lt _ (by decide)) (Dig.nil _)
  | h :: h' :: t => Dig.cons (Nat.mod_lt _ (by decide)) (pairs_dig t)
theorem pairs_val : ∀ hs : List Nat, Dig 65536 hs → val 4294967296 (pairs hs) = val 65536 hs
  | [], _ => rfl
  | [h], hd => by have := hd.head; rw [pairs, val, val, val, val]; omega
  | h :: h' :: t, hd => by
    have h1 := hd.head; have h2 := hd.tail.head
    rw [pairs, val, val, val, pairs_val t hd.tail.tail]; omega
theorem pairs_len : ∀ hs : List Nat, (pairs hs).length ≤ hs.length
  | [] => Nat.le_refl _
  | [_] => Nat.le_refl _
  | _ :: _ :: t => by rw [pairs]; have := pairs_len t; simp; omega

theorem whole_l1 (xs : List Nat) (hd : Dig 4294967296 xs) (hl : xs.length < 9223372036854775807) (n : Nat) : ∀ k, n ≤ xs.length → n < k →
    samphireref02_Whole.l1 k (I (xs.take n)) = some (I (limbs (val 4294967296 (xs.take n)))) := by
  induction n with
  | zero =>
    intro k _ hk
    obtain ⟨k, rfl, hk⟩ := succ_of hk
    rw [samphireref02_Whole.l1, List.take_zero]
    refine iff_ (by simp [I]) ?_
    rw [val, limbs_zero]
  | succ n ih =>
    intro k hn hk
    obtain ⟨k, rfl, hk⟩ := succ_of hk
    have e : (I (xs.take (n + 1))).length = n + 1 := by rw [I_length, List.length_take, Nat.min_eq_left hn]
    have e2 : (xs.take (n + 1)).getD n 0 = xs.getD n 0 := by
      rw [List.getD_eq_getElem?_getD, List.getD_eq_getElem?_getD, List.getElem?_take_of_lt (by omega)]
    rw [samphireref02_Whole.l1, e]
    rw [pred64 n (by omega), rd_I, e2]
    refine ift (by omega) (ift (by omega) (ift (by omega) ?_))
    have hv := val_take_succ (B := 4294967296) xs n (by omega)
    by_cases h0 : xs.getD n 0 = 0
    · rw [if_pos (by omega), if_pos (by omega), hv, h0, Nat.mul_zero, Nat.add_zero, Int.toNat_natCast, I_take, List.take_take, Nat.min_eq_left (by omega)]
      exact ih k (by omega) (by omega)
    · rw [if_neg (by omega), take_succ_getD xs n (by omega), Limb.limbs_snoc _ _ (hd.take n) (hd.getD (by decide) n) h0]
theorem two64 (i : Nat) (h : i < 9223372036854775800) : wrap64 ((i : Int) + 2) = ((i + 2 : Nat) : Int) := by unfold wrap64; omega
theorem whole_l0 (hs : List Nat) (hd : Dig 65536 hs) (hl : hs.length < 1152921504606) (K : Nat) (hK : hs.length < K) (m : Nat) : ∀ (k i : Nat) (ds : List Nat), hs.length ≤ i + 2 * m → i ≤ hs.length + 1 → m + K < k → Dig 4294967296 ds → ds.length + (pairs (hs.drop i)).length ≤ hs.length →
    samphireref02_Whole.l0 k (I hs) (I ds) (i : Int) = some (I (limbs (val 4294967296 (ds ++ pairs (hs.drop i))))) := by
  induction m with
  | zero =>
    intro k i ds h1 h2 hk hD hLn
    obtain ⟨k, rfl, hk⟩ := succ_of hk
    rw [samphireref02_Whole.l0, I_length]
    refine iff_ (by omega) ?_
    rw [List.drop_of_length_le (by omega), pairs, List.append_nil]
    have := whole_l1 ds hD (by omega) ds.length k (Nat.le_refl _) (by omega)
    rw [List.take_length] at this
    exact this
  | succ m ih =>
    intro k i ds h1 h2 hk hD hLn
    obtain ⟨k, rfl, hk⟩ := succ_of hk
    by_cases hi : i < hs.length
    · have e1 := hd.getD (by decide) i
      have e2 := hd.getD (by decide) (i + 1)
      rw [samphireref02_Whole.l0, I_length]
      refine ift (by omega) (ift (by omega) ?_)
      rw [inc64 i (by omega), two64 i (by omega), rd_I, rd_I, I_length]
      rw [NatT.drop_getD hs i hi] at hLn ⊢
      by_cases hj : i + 1 < hs.length
      · rw [NatT.drop_getD hs (i + 1) hj, show i + 1 + 1 = i + 2 from rfl] at hLn ⊢
        rw [pairs, List.length_cons] at hLn
        refine ift (by omega) (ift (by omega) (ift (by omega) ?_))
        have e3 : IntKind.u64.wrap (((hs.getD i 0 : Nat) : Int) + IntKind.u64.wrap (65536 * ((hs.getD (i + 1) 0 : Nat) : Int))) % 4294967296 = (((hs.getD i 0 + 65536 * hs.getD (i + 1) 0) % 4294967296 : Nat) : Int) := by
          simp only [IntKind.wrap_u64]; omega
        rw [e3, I_snoc, ih k (i + 2) _ (by omega) (by omega) (by omega) (hD.append (Dig.cons (Nat.mod_lt _ (by decide)) (Dig.nil _))) (by rw [List.length_append, List.length_singleton]; omega)]
        rw [pairs, List.append_assoc]; rfl
      · rw [List.drop_of_length_le (by omega : hs.length ≤ i + 1)] at hLn ⊢
        rw [pairs, List.length_singleton] at hLn
        refine iff_ (by omega) (ift (by omega) ?_)
        have e3 : ((hs.getD i 0 : Nat) : Int) % 4294967296 = ((hs.getD i 0 % 4294967296 : Nat) : Int) := by omega
        rw [e3, I_snoc, ih k (i + 2) _ (by omega) (by omega) (by omega) (hD.append (Dig.cons (Nat.mod_lt _ (by decide)) (Dig.nil _))) (by rw [List.drop_of_length_le (by omega), pairs, List.length_append, List.length_singleton, List.length_nil]; omega)]
        rw [List.drop_of_length_le (by omega : hs.length ≤ i + 2), pairs, pairs, List.append_nil]
    · rw [samphireref02_Whole.l0, I_length]
      refine iff_ (by omega) ?_
      rw [List.drop_of_length_le (by omega), pairs, List.append_nil]
      rw [List.drop_of_length_le (by omega), pairs] at hLn
      have := whole_l1 ds hD (by omega) ds.length k (Nat.le_refl _) (by simp at hLn; omega)
      rw [List.take_length] at this
      exact this
theorem whole (hs : List Nat) (hd : Dig 65536 hs) (hl : hs.length < 1152921504606) (k : Nat) (hk : 2 * hs.length + 2 < k) : samphireref02_Whole.f k (I hs) = some (I (limbs (val 65536 hs))) := by
  unfold samphireref02_Whole.f
  have := whole_l0 hs hd hl (hs.length + 1) (by omega) hs.length k 0 [] (by omega) (by omega) (by omega) (Dig.nil _) (by have := pairs_len hs; simp; omega)
  rw [List.drop_zero, List.nil_append, pairs_val hs hd] at this
  exact this
theorem refOf (n : Nat) (h : n < 18446744073709551616) (k : Nat) (hk : 10 < k) : samphireref02_Of.f k (n : Int) = some (I (limbs n)) := by
  unfold samphireref02_Of.f
  have e : ([Int.tmod (n : Int) 65536, Int.tmod (IntKind.u64.wrap (Int.tdiv (n : Int) 65536)) 65536, Int.tmod (IntKind.u64.wrap (Int.tdiv (n : Int) 4294967296)) 65536, IntKind.u64.wrap (Int.tdiv (n : Int) 281474976710656)] : List Int) = I [n % 65536, n / 65536 % 65536, n / 4294967296 % 65536, n / 281474976710656] := by
    simp only [IntKind.wrap_u64, Int.tdiv_eq_ediv_of_nonneg (Int.natCast_nonneg n)]
    rw [Int.tmod_eq_emod_of_nonneg (by omega), Int.tmod_eq_emod_of_nonneg (by omega), Int.tmod_eq_emod_of_nonneg (by omega)]
    simp only [I, List.map_cons, List.map_nil]
    rw [show ((n : Int) / 65536) % 18446744073709551616 = (n : Int) / 65536 by omega, show ((n : Int) / 4294967296) % 18446744073709551616 = (n : Int) / 4294967296 by omega, show ((n : Int) / 281474976710656) % 18446744073709551616 = (n : Int) / 281474976710656 by omega]
    rfl
  rw [e]
  have hd : Dig 65536 [n % 65536, n / 65536 % 65536, n / 4294967296 % 65536, n / 281474976710656] := Dig.cons (Nat.mod_lt _ (by decide)) (Dig.cons (Nat.mod_lt _ (by decide)) (Dig.cons (Nat.mod_lt _ (by decide)) (Dig.cons (by omega) (Dig.nil _))))
  refine bnd (whole _ hd (show 4 < 1152921504606 by omega) k (show 2 * 4 + 2 < k by omega)) ?_
  rw [val, val, val, val, val, show n % 65536 + 65536 * (n / 65536 % 65536 + 65536 * (n / 4294967296 % 65536 + 65536 * (n / 281474976710656 + 65536 * 0))) = n by omega]
theorem same_loop (xs : List Nat) (hl : xs.length < 9223372036854775807) (m : Nat) : ∀ (k i : Nat), i + m = xs.length → m < k → samphireref02_Same.l0 k (I xs) (I xs) (i : Int) = some true := by
  induction m with
  | zero =>
    intro k i hi hk
    obtain ⟨k, rfl, hk⟩ := succ_of hk
    rw [samphireref02_Same.l0, I_length]
    exact iff_ (by omega) rfl
  | succ m ih =>
    intro k i hi hk
    obtain ⟨k, rfl, hk⟩ := succ_of hk
    rw [samphireref02_Same.l0, I_length, inc64 i (by omega)]
    exact ift (by omega) (ift (by omega) (ift (by omega) (ift rfl (ih k (i + 1) (by omega) (by omega)))))
theorem same (xs : List Nat) (hl : xs.length < 9223372036854775807) (k : Nat) (hk : xs.length < k) : samphireref02_Same.f k (I xs) (I xs) = some true := by
  unfold samphireref02_Same.f
  rw [if_pos rfl]
  exact same_loop xs hl xs.length k 0 (by omega) hk
end Go.Proofs.Ytpgfadljcmakfaa.DrawT
