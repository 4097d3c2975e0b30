/- What the naturals' functions tell, over limbs. -/
import Derived.Test.YtpgfadljcmakfaaTx5
import Derived.Test.YtpgfadljcmakfaaLimb
namespace Go.Proofs.Ytpgfadljcmakfaa.NatT
open Go.RowKit Go.Proofs.Ytpgfadljcmakfaa.Q Go.Proofs.Ytpgfadljcmakfaa.T Go.Proofs.YtpgfadljcmakfaaW.PrintWords Go.Proofs.YtpgfadljcmakfaaW.PrintLast Go.Proofs.Ytpgfadljcmakfaa.Limb

theorem succ_of {k n : Nat} (h : n < k) : ∃ j, k = j + 1 ∧ n ≤ j := ⟨k - 1, by omega, by omega⟩
theorem pred64 (n : Nat) (h : n < 9223372036854775807) : wrap64 (((n + 1 : Nat) : Int) - 1) = (n : Int) := by unfold wrap64; omega
theorem inc64 (n : Nat) (h : n < 9223372036854775807) : wrap64 ((n : Int) + 1) = ((n + 1 : Nat) : Int) := by unfold wrap64; omega
theorem add64 (n m : Nat) (h : n + m < 9223372036854775808) : wrap64 ((n : Int) + (m : Int)) = ((n + m : Nat) : Int) := by unfold wrap64; omega

theorem right (xs : List Nat) (hl : xs.length < 9223372036854775807) : nat_Right.f (I xs) = some (decide (xs.length ≤ 64 ∧ (xs.length ≠ 0 → xs.getD (xs.length - 1) 0 ≠ 0))) := by
  unfold nat_Right.f
  rw [I_length]
  by_cases h : xs.length ≤ 64
  · rw [if_pos (by omega)]
    by_cases h0 : xs.length = 0
    · rw [if_pos (by omega), decide_eq_true ⟨h, fun h2 => absurd h0 h2⟩]
    · obtain ⟨n, hn⟩ : ∃ n, xs.length = n + 1 := ⟨xs.length - 1, by omega⟩
      rw [if_neg (by omega), hn, pred64 n (by omega), rd_I]
      refine ift (by omega) (ift (by omega) ?_)
      congr 1
      rw [show n + 1 - 1 = n by omega]
      rw [Bool.eq_iff_iff]
      simp only [bne_iff_ne, ne_eq, decide_eq_true_eq]
      omega
  · rw [if_neg (by omega), decide_eq_false (fun h2 => h h2.1)]
theorem right_limbs (n : Nat) (h : (limbs n).length ≤ 64) : nat_Right.f (I (limbs n)) = some true := by
  rw [right _ (by omega), decide_eq_true]
  refine ⟨h, fun h2 => ?_⟩
  refine limbs_last n (fun e => ?_)
  subst e; rw [limbs_zero] at h2; exact h2 rfl
theorem right_big (xs : List Nat) (hl : xs.length < 9223372036854775807) (h : nat_Right.f (I xs) = some true) (hd : Dig 4294967296 xs) : xs = limbs (val 4294967296 xs) ∧ xs.length ≤ 64 := by
  rw [right _ hl] at h
  obtain ⟨h1, h2⟩ := of_decide_eq_true (Option.some.inj h)
  refine ⟨(limbs_val xs hd ?_).symm, h1⟩
  rw [List.getLast?_eq_getElem?]
  intro e
  by_cases h0 : xs.length = 0
  · rw [List.length_eq_zero_iff.1 h0] at e; cases e
  · refine h2 h0 ?_
    rw [List.getD_eq_getElem?_getD, e]; rfl

theorem trim_loop (xs : List Nat) (hd : Dig 4294967296 xs) (hl : xs.length < 9223372036854775807) (n : Nat) : ∀ k, n ≤ xs.length → n < k → nat_trim.l0 k (I xs) (n : Int) = some (I (limbs (val 4294967296 (xs.take n)))) := by
  induction n with
  | zero =>
    intro k _ hk
    obtain ⟨k, rfl, hk⟩ := succ_of hk
    rw [nat_trim.l0]
    refine iff_ (by omega) (ift (by omega) (ift (by omega) ?_))
    rw [List.take_zero, val, limbs_zero]; rfl
  | succ n ih =>
    intro k hn hk
    obtain ⟨k, rfl, hk⟩ := succ_of hk
    rw [nat_trim.l0]
    refine ift (by omega) ?_
    rw [pred64 n (by omega), I_length, rd_I]
    refine ift (by omega) (ift (by omega) ?_)
    have hv := val_take_succ (B := 4294967296) xs n (by omega)
    by_cases h0 : xs.getD n 0 = 0
    · rw [if_pos (by omega), hv, h0, Nat.mul_zero, Nat.add_zero]
      exact ih k (by omega) (by omega)
    · rw [if_neg (by omega)]
      refine ift (by omega) (ift (by omega) ?_)
      rw [Int.toNat_natCast, I_take, take_succ_getD xs n (by omega), limbs_snoc _ _ (hd.take n) (hd.getD (by decide) n) h0]
theorem trim (xs : List Nat) (hd : Dig 4294967296 xs) (hl : xs.length < 9223372036854775807) (k : Nat) (hk : xs.length < k) : nat_trim.f k (I xs) = some (I (limbs (val 4294967296 xs))) := by
  unfold nat_trim.f
  rw [I_length, trim_loop xs hd hl _ k (Nat.le_refl _) hk, List.take_length]

theorem of_ (n : Nat) (h : n < 18446744073709551616) (k : Nat) (hk : 2 < k) : nat_Of.f k (n : Int) = some (I (limbs n)) := by
  unfold nat_Of.f
  have e : ([((n : Int)) % 4294967296, ((n : Int) / 4294967296) % 4294967296] : List Int) = I [n % 4294967296, n / 4294967296 % 4294967296] := rfl
  rw [e]
  refine bnd (trim _ (Dig.cons (Nat.mod_lt _ (by decide)) (Dig.cons (Nat.mod_lt _ (by decide)) (Dig.nil _))) (show 2 < 9223372036854775807 by omega) k hk) ?_
  rw [val, val, val, show n % 4294967296 + 4294967296 * (n / 4294967296 % 4294967296 + 4294967296 * 0) = n by omega]

/-- Which one is less. -/
def cmp (a b : Nat) : Int := if a < b then -1 else if b < a then 1 else 0
theorem cmp_top {B : Nat} {a b x y n : Nat} (ha : a < B ^ n) (hb : b < B ^ n) : cmp (a + B ^ n * x) (b + B ^ n * y) = if x < y then -1 else if y < x then 1 else cmp a b := by
  rcases Nat.lt_trichotomy x y with h | h | h
  · rw [if_pos h]
    have : B ^ n * (x + 1) ≤ B ^ n * y := Nat.mul_le_mul_left _ h
    rw [Nat.mul_add, Nat.mul_one] at this
    rw [cmp, if_pos (by omega)]
  · subst h
    rw [if_neg (by omega), if_neg (by omega)]
    simp only [cmp, Nat.add_lt_add_iff_right]
  · rw [if_neg (by omega), if_pos h]
    have : B ^ n * (y + 1) ≤ B ^ n * x := Nat.mul_le_mul_left _ h
    rw [Nat.mul_add, Nat.mul_one] at this
    rw [cmp, if_neg (by omega), if_pos (by omega)]
theorem order_loop (xs ys : List Nat) (hx : Dig 4294967296 xs) (hy : Dig 4294967296 ys) (hl : xs.length = ys.length) (hm : xs.length < 9223372036854775807) (n : Nat) : ∀ k, n ≤ xs.length → n < k →
    nat_order.l0 k (I xs) (I ys) ((n : Int) - 1) = some (cmp (val 4294967296 (xs.take n)) (val 4294967296 (ys.take n))) := by
  induction n with
  | zero =>
    intro k _ hk
    obtain ⟨k, rfl, hk⟩ := succ_of hk
    rw [nat_order.l0]
    exact iff_ (by omega) rfl
  | succ n ih =>
    intro k hn hk
    obtain ⟨k, rfl, hk⟩ := succ_of hk
    rw [nat_order.l0, show ((n + 1 : Nat) : Int) - 1 = (n : Int) by omega, I_length, I_length, rd_I, rd_I]
    refine ift (by omega) (ift (by omega) (ift (by omega) (ift (by omega) ?_)))
    rw [val_take_succ xs n (by omega), val_take_succ ys n (by omega)]
    have e1 : val 4294967296 (xs.take n) < 4294967296 ^ n := by have := val_lt (hx.take n); rwa [List.length_take, Nat.min_eq_left (by omega)] at this
    have e2 : val 4294967296 (ys.take n) < 4294967296 ^ n := by have := val_lt (hy.take n); rwa [List.length_take, Nat.min_eq_left (by omega)] at this
    rw [cmp_top e1 e2]
    by_cases h1 : xs.getD n 0 < ys.getD n 0
    · rw [if_pos (by omega), if_pos h1]
    · rw [if_neg (by omega), if_neg h1]
      by_cases h2 : ys.getD n 0 < xs.getD n 0
      · rw [if_pos (by omega), if_pos h2]
      · rw [if_neg (by omega), if_neg h2, show wrap64 ((n : Int) - 1) = (n : Int) - 1 by unfold wrap64; omega]
        exact ih k (by omega) (by omega)
theorem order (a b : Nat) (ha : (limbs a).length < 9223372036854775807) (hb : (limbs b).length < 9223372036854775807) (k : Nat) (hk : (limbs a).length < k) : nat_order.f k (I (limbs a)) (I (limbs b)) = some (cmp a b) := by
  unfold nat_order.f
  rw [I_length, I_length]
  by_cases h : (limbs a).length = (limbs b).length
  · rw [if_pos (by omega), show wrap64 (((limbs a).length : Int) - 1) = ((limbs a).length : Int) - 1 by unfold wrap64; omega]
    rw [order_loop _ _ (limbs_dig a) (limbs_dig b) h ha _ k (Nat.le_refl _) hk, List.take_length, h, List.take_length, val_limbs, val_limbs]
  · rw [if_neg (by omega)]
    congr 1
    rcases Nat.lt_or_gt_of_ne h with h1 | h1
    · have h2 := (limbs_len a (limbs a).length).1 (Nat.le_refl _)
      have h3 : ¬ b < 4294967296 ^ (limbs a).length := fun h4 => by have := (limbs_len b _).2 h4; omega
      rw [cmp, if_pos (by omega)]
      simp only [mn, mx, wrap64]; repeat' split
      all_goals omega
    · have h2 := (limbs_len b (limbs b).length).1 (Nat.le_refl _)
      have h3 : ¬ a < 4294967296 ^ (limbs b).length := fun h4 => by have := (limbs_len a _).2 h4; omega
      rw [cmp, if_neg (by omega), if_pos (by omega)]
      simp only [mn, mx, wrap64]; repeat' split
      all_goals omega
theorem cmp_ (a b : Nat) (ha : (limbs a).length ≤ 64) (hb : (limbs b).length ≤ 64) (k : Nat) (hk : 64 < k) : nat_Cmp.f k (I (limbs a)) (I (limbs b)) = some (cmp a b) := by
  unfold nat_Cmp.f
  refine bnd (right_limbs a ha) (ift rfl (bnd (right_limbs b hb) (ift rfl (bnd (order a b (by omega) (by omega) k (by omega)) rfl))))

theorem set_end (ds : List Nat) (m d : Nat) : (ds ++ List.replicate (m + 1) 0).set ds.length d = (ds ++ [d]) ++ List.replicate m 0 := by
  rw [List.set_append_right _ _ (Nat.le_refl _), Nat.sub_self, List.replicate_succ, List.set_cons_zero, List.append_assoc]; rfl
theorem drop_getD (xs : List Nat) (i : Nat) (h : i < xs.length) : xs.drop i = xs.getD i 0 :: xs.drop (i + 1) := by
  rw [List.getD_eq_getElem?_getD, List.getElem?_eq_getElem h, Option.getD_some, List.drop_eq_getElem_cons h]
theorem headD_drop (ys : List Nat) (i : Nat) : (ys.drop i).headD 0 = ys.getD i 0 := by
  rw [List.headD_eq_head?_getD, List.head?_drop, List.getD_eq_getElem?_getD]
theorem at_ (ys : List Nat) (hy : Dig 4294967296 ys) (i : Nat) : nat_at.f (I ys) (i : Int) = some ((ys.getD i 0 : Nat) : Int) := by
  unfold nat_at.f
  rw [I_length, rd_I]
  have := hy.getD (by decide) i
  by_cases h : i < ys.length
  · rw [if_pos (by omega), if_pos (by omega), IntKind.wrap_u64]; congr 1; omega
  · rw [if_neg (by omega), List.getD_eq_getElem?_getD, List.getElem?_eq_none (by omega)]; rfl
theorem less_loop (xs ys : List Nat) (hx : Dig 4294967296 xs) (hy : Dig 4294967296 ys) (hl : xs.length < 9223372036854775807) (K : Nat) (hK : xs.length < K) (m : Nat) : ∀ (k : Nat) (ds : List Nat) (o : Nat), ds.length + m = xs.length → m + K < k → o ≤ 1 → Dig 4294967296 ds →
    nat_less.l0 k (I xs) (I ys) (I (ds ++ List.replicate m 0)) (o : Int) (xs.length : Int) (ds.length : Int) = some (I (limbs (val 4294967296 (ds ++ subD (xs.drop ds.length) (ys.drop ds.length) o)))) := by
  induction m with
  | zero =>
    intro k ds o hm hk ho hd
    obtain ⟨k, rfl, hk⟩ := succ_of hk
    rw [nat_less.l0]
    refine iff_ (by omega) (bnd (trim _ ?_ ?_ k ?_) ?_)
    · simpa using hd
    · simp; omega
    · simp; omega
    · rw [List.drop_of_length_le (by omega), subD]; rfl
  | succ m ih =>
    intro k ds o hm hk ho hd
    obtain ⟨k, rfl, hk⟩ := succ_of hk
    have h1 := hx.getD (by decide) ds.length
    have h2 := hy.getD (by decide) ds.length
    rw [nat_less.l0, I_length, I_length, rd_I, drop_getD xs _ (by omega), subD, headD_drop, List.tail_drop]
    refine ift (by omega) (ift (by omega) (ift (by omega) (bnd (at_ ys hy _) (ift (by simp; omega) ?_))))
    simp only [IntKind.wrap_u64]
    rw [inc64 ds.length (by omega), Int.toNat_natCast]
    by_cases hc : ys.getD ds.length 0 + o ≤ xs.getD ds.length 0
    · rw [if_pos hc]
      have e1 : ((((((xs.getD ds.length 0 : Nat) : Int) % 18446744073709551616) - ((ys.getD ds.length 0 : Nat) : Int)) % 18446744073709551616 - (o : Int)) % 18446744073709551616) = ((xs.getD ds.length 0 - ys.getD ds.length 0 - o : Nat) : Int) := by omega
      rw [e1, show ((xs.getD ds.length 0 - ys.getD ds.length 0 - o : Nat) : Int) % 4294967296 = ((xs.getD ds.length 0 - ys.getD ds.length 0 - o : Nat) : Int) by omega, I_set, set_end, show ((xs.getD ds.length 0 - ys.getD ds.length 0 - o : Nat) : Int) / 9223372036854775808 = ((0 : Nat) : Int) by omega]
      have := ih k (ds ++ [xs.getD ds.length 0 - ys.getD ds.length 0 - o]) 0 (by simp; omega) (by omega) (by omega) (hd.append (Dig.cons (by omega) (Dig.nil _)))
      rw [List.length_append, List.length_singleton, List.append_assoc ds] at this
      rw [List.append_assoc ds] at this ⊢
      exact this
    · rw [if_neg hc]
      have e1 : ((((((xs.getD ds.length 0 : Nat) : Int) % 18446744073709551616) - ((ys.getD ds.length 0 : Nat) : Int)) % 18446744073709551616 - (o : Int)) % 18446744073709551616) = 18446744073709551616 + ((xs.getD ds.length 0 : Nat) : Int) - ((ys.getD ds.length 0 : Nat) : Int) - (o : Int) := by omega
      rw [e1, show (18446744073709551616 + ((xs.getD ds.length 0 : Nat) : Int) - ((ys.getD ds.length 0 : Nat) : Int) - (o : Int)) % 4294967296 = ((4294967296 + xs.getD ds.length 0 - ys.getD ds.length 0 - o : Nat) : Int) by omega, I_set, set_end, show (18446744073709551616 + ((xs.getD ds.length 0 : Nat) : Int) - ((ys.getD ds.length 0 : Nat) : Int) - (o : Int)) / 9223372036854775808 = ((1 : Nat) : Int) by omega]
      have := ih k (ds ++ [4294967296 + xs.getD ds.length 0 - ys.getD ds.length 0 - o]) 1 (by simp; omega) (by omega) (by omega) (hd.append (Dig.cons (by omega) (Dig.nil _)))
      rw [List.length_append, List.length_singleton, List.append_assoc ds] at this
      rw [List.append_assoc ds] at this ⊢
      exact this
theorem less (a b : Nat) (h : b ≤ a) (hl : (limbs a).length ≤ 70368744177664) (k : Nat) (hk : 2 * (limbs a).length + 2 < k) : nat_less.f k (I (limbs a)) (I (limbs b)) = some (I (limbs (a - b))) := by
  unfold nat_less.f
  rw [I_length]
  refine ift (by omega) (ift (by omega) (bnd rfl ?_))
  rw [Int.toNat_natCast, I_replicate, I_length, List.length_replicate]
  have := less_loop (limbs a) (limbs b) (limbs_dig a) (limbs_dig b) (by omega) ((limbs a).length + 1) (by omega) (limbs a).length k [] 0 (by simp) (by omega) (by omega) (Dig.nil _)
  rw [List.nil_append, List.length_nil, List.drop_zero, List.drop_zero, List.nil_append] at this
  have h2 := subD_val (limbs a) (limbs b) 0 (limbs_dig a) (limbs_dig b) (by omega) (by rw [val_limbs, val_limbs]; omega)
  rw [val_limbs, val_limbs] at h2
  rw [show val 4294967296 (subD (limbs a) (limbs b) 0) = a - b by omega] at this
  exact this
theorem sub (a b : Nat) (h : b ≤ a) (ha : (limbs a).length ≤ 64) (hb : (limbs b).length ≤ 64) (k : Nat) (hk : 130 < k) : nat_Sub.f k (I (limbs a)) (I (limbs b)) = some (I (limbs (a - b)), 0) := by
  unfold nat_Sub.f
  refine bnd (right_limbs a ha) (ift rfl (bnd (right_limbs b hb) (ift rfl (bnd (order a b (by omega) (by omega) k (by omega)) ?_))))
  refine iff_ ?_ (bnd (less a b h (by omega) k (by omega)) rfl)
  rw [cmp, if_neg (by omega)]; split <;> omega
end Go.Proofs.Ytpgfadljcmakfaa.NatT
