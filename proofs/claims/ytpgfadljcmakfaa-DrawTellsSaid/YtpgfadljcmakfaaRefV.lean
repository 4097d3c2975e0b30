/- The document's draws: the loops. -/
import Derived.Test.YtpgfadljcmakfaaRefU
namespace Go.Proofs.Ytpgfadljcmakfaa.DrawT
open Go.RowKit Go.Proofs.Ytpgfadljcmakfaa.Q Go.Proofs.Ytpgfadljcmakfaa.T Go.Proofs.YtpgfadljcmakfaaW.PrintWords Go.Proofs.YtpgfadljcmakfaaW.PrintLast
open Go.Proofs.Ytpgfadljcmakfaa.Limb (I I_length I_cons I_nil I_append I_snoc I_take I_drop I_set I_replicate rd_I val Dig limbs limbs_zero val_limbs limbs_dig limbs_len val_append val_take_succ take_succ_getD val_zeros val_lt)
open Go.Proofs.Ytpgfadljcmakfaa.NatT (succ_of inc64 add64 cmp cmp_top)
set_option linter.unusedVariables false
set_option exponentiation.threshold 4096
theorem shl1 (left : Nat) (h : left < 16) : shl .u64 1 (left : Int) = ((2 ^ left : Nat) : Int) := by
  have : ∀ l : Fin 16, shl .u64 1 (l.val : Int) = ((2 ^ l.val : Nat) : Int) := by decide +kernel
  exact this ⟨left, h⟩
theorem half_step (w left : Nat) (h : left < 16) : Int.tmod (Int.tmod (w : Int) 65536) ((2 ^ left : Nat) : Int) = ((w % 65536 % 2 ^ min 16 left : Nat) : Int) := by
  rw [Nat.min_eq_right (by omega), Int.tmod_eq_emod_of_nonneg (by omega : (0 : Int) ≤ (w : Int)), show ((w : Int) % 65536) = ((w % 65536 : Nat) : Int) by omega, Int.tmod_eq_emod_of_nonneg (Int.natCast_nonneg _)]
  exact (Int.natCast_emod _ _).symm
theorem l2_loop (X : List Int) (bits : Nat) (cur : Int) (l : List Int) (a0 : Int) : ∀ (n j K w left : Nat) (hs : List Nat), j + n = 4 → w < 18446744073709551616 → left < 1000000 → hs.length + n < 1000000 →
    samphireref07_Below.l2 (K + n + 1) X (bits : Int) cur (I hs) (left : Int) (w : Int) (j : Int) l a0 = samphireref07_Below.l1 K X (bits : Int) cur (I (hs ++ hh n w left)) ((left - 16 * n : Nat) : Int) l a0 := by
  intro n
  induction n with
  | zero =>
    intro j K w left hs hj hw hl hh0
    obtain rfl : j = 4 := by omega
    rw [samphireref07_Below.l2, if_neg (by decide), hh, List.append_nil, Nat.mul_zero, Nat.sub_zero]
  | succ n ih =>
    intro j K w left hs hj hw hl hh0
    have c1 : (j : Int) < 4 := by omega
    have cl : (I hs).length < 17592186044416 := by rw [I_length]; omega
    have ew : IntKind.u64.wrap (Int.tdiv (w : Int) 65536) = ((w / 65536 : Nat) : Int) := by rw [Int.tdiv_eq_ediv_of_nonneg (by omega), IntKind.wrap_u64]; omega
    have hnext := ih (j + 1) K (w / 65536) (left - 16) (hs ++ [w % 65536 % 2 ^ min 16 left]) (by omega) (by omega) (by omega) (by rw [List.length_append, List.length_singleton]; omega)
    rw [List.append_assoc, show left - 16 - 16 * n = left - 16 * (n + 1) by omega, ← I_snoc] at hnext
    rw [hh, show K + (n + 1) + 1 = (K + n + 1) + 1 by omega, samphireref07_Below.l2, if_pos c1, ew, inc64 j (by omega)]
    refine Eq.trans ?_ hnext
    by_cases hc : left < 16
    · have el : IntKind.u64.wrap (left : Int) = (left : Int) := by rw [IntKind.wrap_u64]; omega
      have e0 : wrap64 ((left : Int) - (left : Int)) = ((left - 16 : Nat) : Int) := by unfold wrap64; omega
      have hp : ¬ ((2 ^ left : Nat) : Int) = 0 := by have := Nat.two_pow_pos left; omega
      rw [if_pos (by omega), el, if_pos (by omega), shl1 left hc, if_neg hp, if_pos cl, half_step w left hc, e0]
    · have e1 : Int.tmod (w : Int) 65536 = ((w % 65536 % 2 ^ min 16 left : Nat) : Int) := by
        rw [Nat.min_eq_left (by omega), show (2 : Nat) ^ 16 = 65536 by decide, Nat.mod_mod, Int.tmod_eq_emod_of_nonneg (by omega)]; omega
      have e2 : wrap64 ((left : Int) - 16) = ((left - 16 : Nat) : Int) := by unfold wrap64; omega
      rw [if_neg (by omega), if_neg (by decide), if_pos cl, e1, e2]
theorem l1_loop {l : List Int} {xs : List Nat} (h : Words l xs) (hl : xs.length < 100000) (X : List Int) (bits : Nat) (a0 : Int) : ∀ (q left cur K : Nat) (hs : List Nat), q = (left + 63) / 64 → cur ≤ xs.length → left < 3000 → hs.length + 4 * q < 900000 →
    samphireref07_Below.l1 (K + 6 * q + 1) X (bits : Int) (cur : Int) (I hs) (left : Int) l a0 = if xs.length - cur < q then some ([], l, a0, 8) else samphireref07_Below.l1 (K + 1) X (bits : Int) ((cur + q : Nat) : Int) (I (hs ++ H left ((xs.drop cur).take q))) 0 l a0 := by
  intro q
  induction q with
  | zero =>
    intro left cur K hs hq hcur hleft hhs
    obtain rfl : left = 0 := by omega
    rw [if_neg (by omega), List.take_zero, H, List.append_nil, Nat.mul_zero, Nat.add_zero, Nat.add_zero]; rfl
  | succ q ih =>
    intro left cur K hs hq hcur hleft hhs
    have hlen := h.length
    have hl0 : 0 < left := by omega
    rw [show K + 6 * (q + 1) + 1 = (K + 6 * q + 6) + 1 by omega, samphireref07_Below.l1, if_pos (by omega)]
    by_cases hc : cur = xs.length
    · rw [if_pos (by omega), if_pos (by omega)]
    · have hr := h.rd cur
      have hwl := h.lt cur
      have hd : xs.drop cur = xs.getD cur 0 :: xs.drop (cur + 1) := NatT.drop_getD xs cur (by omega)
      rw [if_neg (by omega), if_pos (by omega), if_pos (by omega), hr, inc64 cur (by omega)]
      have h2 := l2_loop X bits ((cur + 1 : Nat) : Int) l a0 4 0 (K + 6 * q + 1) (xs.getD cur 0) left hs (by omega) hwl (by omega) (by omega)
      rw [show K + 6 * q + 1 + 4 + 1 = K + 6 * q + 6 by omega] at h2
      refine Eq.trans h2 ?_
      rw [show left - 16 * 4 = left - 64 by omega]
      rw [ih (left - 64) (cur + 1) K (hs ++ hh 4 (xs.getD cur 0) left) (by omega) (by omega) (by omega) (by rw [List.length_append, hh_len]; omega)]
      by_cases hn : xs.length - cur < q + 1
      · rw [if_pos hn, if_pos (by omega)]
      · rw [if_neg hn, if_neg (by omega), hd, List.take_succ_cons, H, List.append_assoc, show cur + 1 + q = cur + (q + 1) by omega]
theorem l0_loop (n bits : Nat) (hn : 0 < n) (hnl : (limbs n).length ≤ 64) (hm : bits ≤ 2048) {l : List Int} {xs : List Nat} (h : Words l xs) (hl : xs.length < 1000) (a0 : Int) (c : Nat) (hc : c = 6 * ((bits + 63) / 64) + 2) : ∀ (f cur K : Nat), cur ≤ xs.length → xs.length - cur < f →
    samphireref07_Below.l0 (K + 1000 + f * c) (I (limbs n)) (bits : Int) (cur : Int) l a0 = some (told l l a0 (pickN bits n xs f cur)) := by
  intro f
  induction f with
  | zero => intro cur K _ h1; omega
  | succ f ih =>
    intro cur K hcur hf
    obtain ⟨q, hq⟩ : ∃ q, q = (bits + 63) / 64 := ⟨_, rfl⟩
    have hq33 : q ≤ 32 := by omega
    rw [show K + 1000 + (f + 1) * c = (K + 1000 + f * c + 6 * q + 1) + 1 by rw [Nat.succ_mul]; omega, samphireref07_Below.l0]
    have h1 := l1_loop h (by omega) (I (limbs n)) bits a0 q bits cur (K + 1000 + f * c) [] hq hcur (by omega) (by simp; omega)
    refine Eq.trans h1 ?_
    rw [pickN, ← hq]
    by_cases hs : xs.length - cur < q
    · rw [if_pos hs, if_pos hs]; rfl
    · rw [if_neg hs, if_neg hs, List.nil_append]
      have hwl : ∀ x ∈ (xs.drop cur).take q, x < 18446744073709551616 := fun x hx => h.2 x (List.mem_of_mem_drop (List.mem_of_mem_take hx))
      have hlen : ((xs.drop cur).take q).length = q := by rw [List.length_take, List.length_drop]; omega
      have hv : val 65536 (H bits ((xs.drop cur).take q)) = val 18446744073709551616 ((xs.drop cur).take q) % 2 ^ bits := by
        rw [H_val _ _ hwl, attD_val _ _ hwl (by rw [hlen]; omega)]
      have hlt : val 18446744073709551616 ((xs.drop cur).take q) % 2 ^ bits < 2 ^ bits := Nat.mod_lt _ (Nat.two_pow_pos _)
      have hHl : (H bits ((xs.drop cur).take q)).length ≤ 128 := by rw [H_len, hlen]; omega
      rw [samphireref07_Below.l1, if_neg (by decide), whole _ (H_dig _ _) (by omega) _ (by omega), Option.bind_some, hv]
      generalize val 18446744073709551616 ((xs.drop cur).take q) % 2 ^ bits = v at *
      have hvl := small_limbs v bits hlt hm
      rw [rcmp v n (by omega) (by omega) _ (by omega), Option.bind_some]
      by_cases hvn : v < n
      · rw [if_pos (by unfold cmp; rw [if_pos hvn]; decide), if_pos hvn]; rfl
      · have hq1 : 1 ≤ q := by
          rcases Nat.eq_zero_or_pos bits with e | e
          · subst e; rw [Nat.pow_zero] at hlt; omega
          · omega
        rw [if_neg (by unfold cmp; rw [if_neg hvn]; split <;> decide), if_neg hvn]
        exact ih (cur + q) K (by omega) (by omega)
theorem rright (xs : List Nat) (hl : xs.length < 1000000) : samphireref02_Right.f (I xs) = nat_Right.f (I xs) := by
  rw [NatT.right xs (by omega)]
  unfold samphireref02_Right.f
  rw [I_length]
  by_cases h : xs.length ≤ 64
  · rw [if_neg (by omega)]
    by_cases h0 : xs.length = 0
    · rw [if_pos (by omega), decide_eq_true ⟨h, fun h2 => absurd h0 h2⟩]
    · obtain ⟨n, hn⟩ : ∃ n, xs.length = n + 1 := ⟨xs.length - 1, by omega⟩
      rw [if_neg (by omega), hn, NatT.pred64 n (by omega), rd_I, if_pos (by omega), if_pos (by omega)]
      congr 1
      rw [show n + 1 - 1 = n by omega]
      rw [Bool.eq_iff_iff]
      simp only [decide_eq_true_eq]
      omega
  · rw [if_pos (by omega), decide_eq_false (fun h2 => h h2.1)]
theorem rbelow (n : Nat) (hn : 0 < n) (hnl : (limbs n).length ≤ 64) (l : List Int) (xs : List Nat) (h : Words l xs) (hl : xs.length ≤ 60) (at_ : Nat) (hat : at_ ≤ xs.length) (K : Nat) (hK : 20000 ≤ K) :
    samphireref07_Below.f K l (at_ : Int) (I (limbs n)) = some (told l l (at_ : Int) (pickN (blen (n - 1)) n xs (xs.length + 1) at_)) := by
  have hlen := h.length
  have hb : n < 4294967296 ^ 64 := (limbs_len n 64).1 hnl
  have hmany : blen (n - 1) ≤ 2048 := by
    refine blen_le _ _ ?_
    rw [show (4294967296 : Nat) = 2 ^ 32 by decide, ← Nat.pow_mul] at hb
    have : n - 1 < 2 ^ (32 * 64) := by omega
    exact this
  have hne := Limb.limbs_ne_nil n (by omega)
  obtain ⟨K, rfl⟩ : ∃ j, K = j + 1 := ⟨K - 1, by omega⟩
  unfold samphireref07_Below.f
  rw [rright _ (by omega), NatT.right_limbs n hnl, Option.bind_some, if_pos rfl, if_neg (by rw [I_length]; omega), if_neg (by omega), decide_eq_false (by omega), samphireref07_Below.j0, if_neg (by decide), rmask n hn hnl K (by omega), Option.bind_some]
  obtain ⟨c, hc⟩ : ∃ c, c = 6 * ((blen (n - 1) + 63) / 64) + 2 := ⟨_, rfl⟩
  have hc2 : c ≤ 200 := by omega
  have hcm : (xs.length + 1) * c ≤ 61 * 200 := Nat.mul_le_mul (by omega) hc2
  have := l0_loop n (blen (n - 1)) hn hnl hmany h (by omega) (at_ : Int) c hc (xs.length + 1) at_ (K - 1000 - (xs.length + 1) * c) hat (by omega)
  rw [show K - 1000 - (xs.length + 1) * c + 1000 + (xs.length + 1) * c = K by omega] at this
  exact this
end Go.Proofs.Ytpgfadljcmakfaa.DrawT
