/- What BelowNat tells, over limbs and words. -/
import Derived.Test.YtpgfadljcmakfaaDrawT
import Derived.Test.YtpgfadljcmakfaaNatT
import Derived.Lib.ItoaNum
namespace Go.Proofs.Ytpgfadljcmakfaa.DrawT
open Go.RowKit Go.Proofs.Ytpgfadljcmakfaa.Q Go.Proofs.Ytpgfadljcmakfaa.T Go.Proofs.YtpgfadljcmakfaaW.PrintWords Go.Proofs.YtpgfadljcmakfaaW.PrintLast
open Go.Proofs.Ytpgfadljcmakfaa.Limb (I I_length I_cons I_nil I_append I_take I_drop rd_I val Dig limbs limbs_zero val_limbs limbs_dig limbs_len val_append val_take_succ take_succ_getD)
open Go.Proofs.Ytpgfadljcmakfaa.NatT (succ_of pred64 inc64 add64)

/-- How many bits a number has. -/
def blen (n : Nat) : Nat := if n = 0 then 0 else n.log2 + 1
theorem blen_lt (n : Nat) : n < 2 ^ blen n := by
  unfold blen
  split
  · subst n; decide
  · rename_i h; exact (Nat.log2_lt h).1 (Nat.lt_succ_self _)
theorem blen_le (n m : Nat) (h : n < 2 ^ m) : blen n ≤ m := by
  unfold blen
  split
  · omega
  · rename_i h0; exact (Nat.log2_lt h0).2 h
theorem blen_eq (n m : Nat) (h : 2 ^ m ≤ n) (k : n < 2 ^ (m + 1)) : blen n = m + 1 := by
  have h0 : n ≠ 0 := by have := Nat.two_pow_pos m; omega
  unfold blen
  rw [if_neg h0]
  have h1 := (Nat.log2_lt h0).2 k
  have h2 := (Nat.le_log2 h0).2 h
  omega
theorem bitLen_blen (x : Nat) (h : x < 18446744073709551616) : Lib.bitLen x = blen x := by
  by_cases h0 : x = 0
  · subst h0; rfl
  · obtain ⟨h1, h2, h3⟩ := Lib.bitLenAux_bounds 64 x h h0
    have e : Lib.bitLen x = Lib.bitLenAux 64 x := rfl
    rw [e]
    generalize Lib.bitLenAux 64 x = m at h1 h2 h3
    obtain ⟨m, rfl⟩ : ∃ j, m = j + 1 := ⟨m - 1, by omega⟩
    exact (blen_eq x m h2 h3).symm

theorem limbs_top (n : Nat) (h : n ≠ 0) : ∃ (L t : Nat), (limbs n).length = L + 1 ∧ (limbs n).getD L 0 = t ∧ t ≠ 0 ∧ t < 4294967296 ∧ 4294967296 ^ L * t ≤ n ∧ n < 4294967296 ^ L * (t + 1) := by
  have h1 := Limb.limbs_ne_nil n h
  obtain ⟨L, hL⟩ : ∃ L, (limbs n).length = L + 1 := ⟨(limbs n).length - 1, by omega⟩
  have h2 := Limb.limbs_last n h
  rw [hL, show L + 1 - 1 = L by omega] at h2
  refine ⟨L, _, hL, rfl, h2, (limbs_dig n).getD (by decide) L, ?_⟩
  have h3 := val_take_succ (B := 4294967296) (limbs n) L (by omega)
  rw [← hL, List.take_length, val_limbs] at h3
  have h4 := Limb.val_lt ((limbs_dig n).take L)
  rw [List.length_take, Nat.min_eq_left (by omega)] at h4
  rw [Nat.mul_add, Nat.mul_one]
  omega
theorem bits (n : Nat) (hl : (limbs n).length ≤ 64) : nat_Bits.f (I (limbs n)) = some ((blen n : Nat) : Int) := by
  unfold nat_Bits.f
  refine bnd (NatT.right_limbs n hl) (ift rfl ?_)
  rw [I_length]
  by_cases h : n = 0
  · subst h; rw [limbs_zero]; rfl
  · obtain ⟨L, t, h1, h2, h3, h4, h5, h6⟩ := limbs_top n h
    rw [if_neg (by omega), h1, pred64 L (by omega), rd_I, h2]
    refine ift (by omega) (ift (by omega) (bnd (x := ((blen t : Nat) : Int)) ?_ ?_))
    · unfold bits_Len32.f
      rw [if_pos (by omega), Int.toNat_natCast, bitLen_blen t (by omega)]
    · have hb : blen t ≤ 32 := blen_le t 32 (by omega)
      have e : blen n = 32 * L + blen t := by
        have ht : blen t ≠ 0 := by unfold blen; rw [if_neg h3]; omega
        obtain ⟨b, hb⟩ : ∃ b, blen t = b + 1 := ⟨blen t - 1, by omega⟩
        have k1 : t < 2 ^ (b + 1) := hb ▸ blen_lt t
        have k2 : 2 ^ b ≤ t := by
          rcases Nat.lt_or_ge t (2 ^ b) with hlt | hge
          · have := blen_le t b hlt; omega
          · exact hge
        have e1 : (4294967296 : Nat) ^ L = 2 ^ (32 * L) := by rw [Nat.pow_mul]
        rw [e1] at h5 h6
        rw [hb, ← Nat.add_assoc]
        refine blen_eq n _ ?_ ?_
        · rw [Nat.pow_add]; exact Nat.le_trans (Nat.mul_le_mul_left _ k2) h5
        · rw [Nat.add_assoc, Nat.pow_add]; exact Nat.lt_of_lt_of_le h6 (Nat.mul_le_mul_left _ k1)
      have e7 : wrap64 (32 * (L : Int)) = ((32 * L : Nat) : Int) := by rw [show 32 * (L : Int) = ((32 * L : Nat) : Int) by omega]; exact wrap64_nat _ (by omega)
      rw [e, e7, add64 _ _ (by omega)]

/-- What words are worth, as limbs: so many bits of them. -/
def attD (many : Nat) : List Nat → List Nat
  | [] => []
  | w :: ws => (w % 2 ^ min many 64 % 4294967296) :: (w % 2 ^ min many 64 / 4294967296) :: attD (many - min many 64) ws
theorem attD_dig : ∀ (ws : List Nat) (many : Nat), (∀ x ∈ ws, x < 18446744073709551616) → Dig 4294967296 (attD many ws)
  | [], _, _ => Dig.nil _
  | w :: ws, many, h => by
    have h1 := h w (List.mem_cons_self ..)
    have h2 : w % 2 ^ min many 64 ≤ w := Nat.mod_le _ _
    exact Dig.cons (Nat.mod_lt _ (by decide)) (Dig.cons (by omega) (attD_dig ws _ fun x hx => h x (List.mem_cons_of_mem _ hx)))
theorem attD_val : ∀ (ws : List Nat) (many : Nat), (∀ x ∈ ws, x < 18446744073709551616) → many ≤ 64 * ws.length → val 4294967296 (attD many ws) = val 18446744073709551616 ws % 2 ^ many
  | [], many, _, h => by
    have : many = 0 := by simpa using h
    subst this; rw [attD, val, val, Nat.zero_mod]
  | w :: ws, many, h, hm => by
    have h1 := h w (List.mem_cons_self ..)
    rw [List.length_cons] at hm
    have ih := attD_val ws (many - min many 64) (fun x hx => h x (List.mem_cons_of_mem _ hx)) (by omega)
    rw [attD, val, val, ih, val]
    generalize val 18446744073709551616 ws = v
    by_cases hc : many ≤ 64
    · rw [Nat.min_eq_left hc, show many - many = 0 by omega, Nat.pow_zero, Nat.mod_one]
      have e : (18446744073709551616 : Nat) = 2 ^ many * 2 ^ (64 - many) := by rw [← Nat.pow_add, show many + (64 - many) = 64 by omega]
      have e2 : (w + 18446744073709551616 * v) % 2 ^ many = w % 2 ^ many := by rw [e, Nat.mul_assoc, Nat.add_mul_mod_self_left]
      rw [e2]
      omega
    · rw [Nat.min_eq_right (by omega)]
      obtain ⟨r, hr⟩ : ∃ r, many = 64 + r := ⟨many - 64, by omega⟩
      subst hr
      rw [show 64 + r - 64 = r by omega, Nat.pow_add, Nat.mod_mul, show (2 : Nat) ^ 64 = 18446744073709551616 by decide]
      have e1 : (w + 18446744073709551616 * v) % 18446744073709551616 = w := by omega
      have e2 : (w + 18446744073709551616 * v) / 18446744073709551616 = v := by omega
      rw [e1, e2]
      generalize v % 2 ^ r = z
      omega

theorem att_l1 (q : Int) (l : List Int) (a : Int) (xs : List Nat) (hd : Dig 4294967296 xs) (hl : xs.length < 9223372036854775807) (n : Nat) : ∀ k, n ≤ xs.length → n < k →
    draw_attempt.l1 k q (I (xs.take n)) l a = some (I (limbs (val 4294967296 (xs.take n))), l, wrap64 (a + q), true) := by
  induction n with
  | zero =>
    intro k _ hk
    obtain ⟨k, rfl, hk⟩ := succ_of hk
    rw [draw_attempt.l1, List.take_zero]
    refine iff_ (by simp [I]) ?_
    rw [val, limbs_zero]
  | succ n ih =>
    intro k hn hk
    obtain ⟨k, rfl, hk⟩ := succ_of hk
    have e : (I (xs.take (n + 1))).length = n + 1 := by rw [I_length, List.length_take, Nat.min_eq_left hn]
    have e2 : (xs.take (n + 1)).getD n 0 = xs.getD n 0 := by
      rw [List.getD_eq_getElem?_getD, List.getD_eq_getElem?_getD, List.getElem?_take_of_lt (by omega)]
    rw [draw_attempt.l1, e]
    rw [pred64 n (by omega), rd_I, e2]
    refine ift (by omega) (ift (by omega) (ift (by omega) ?_))
    have hv := val_take_succ (B := 4294967296) xs n (by omega)
    by_cases h0 : xs.getD n 0 = 0
    · rw [if_pos (by omega), if_pos (by omega), hv, h0, Nat.mul_zero, Nat.add_zero, Int.toNat_natCast, I_take, List.take_take, Nat.min_eq_left (by omega)]
      exact ih k (by omega) (by omega)
    · rw [if_neg (by omega), take_succ_getD xs n (by omega), Limb.limbs_snoc _ _ (hd.take n) (hd.getD (by decide) n) h0]

theorem mn_nat (a b : Nat) : mn (a : Int) (b : Int) = ((min a b : Nat) : Int) := by unfold mn; split <;> omega
theorem attD_len : ∀ (ws : List Nat) (many : Nat), (attD many ws).length = 2 * ws.length
  | [], _ => rfl
  | w :: ws, many => by rw [attD, List.length_cons, List.length_cons, attD_len ws]; simp; omega
theorem att_l0 (q : Int) (l : List Int) (a : Int) (ws : List Nat) (hw : ∀ x ∈ ws, x < 18446744073709551616) (hl : ws.length < 1152921504606) (K : Nat) (hK : 2 * ws.length < K) (m : Nat) : ∀ (k i : Nat) (many : Nat) (ds : List Nat), i + m = ws.length → m + K < k → Dig 4294967296 ds → ds.length = 2 * i → many < 4611686018427387904 →
    draw_attempt.l0 k (many : Int) q (I ds) (I ws) (ws.length : Int) (i : Int) l a = some (I (limbs (val 4294967296 (ds ++ attD many (ws.drop i)))), l, wrap64 (a + q), true) := by
  induction m with
  | zero =>
    intro k i many ds hi hk hd hn hmany
    obtain ⟨k, rfl, hk⟩ := succ_of hk
    rw [draw_attempt.l0]
    refine iff_ (by omega) ?_
    have := att_l1 q l a ds hd (by omega) ds.length k (Nat.le_refl _) (by omega)
    rw [List.take_length] at this
    rw [List.drop_of_length_le (by omega), attD, List.append_nil]
    exact this
  | succ m ih =>
    intro k i many ds hi hk hd hn hmany
    obtain ⟨k, rfl, hk⟩ := succ_of hk
    have hx : ws.getD i 0 < 18446744073709551616 := by
      rw [List.getD_eq_getElem?_getD, List.getElem?_eq_getElem (by omega)]; exact hw _ (List.getElem_mem _)
    rw [draw_attempt.l0]
    rw [show mn (many : Int) 64 = ((min many 64 : Nat) : Int) from mn_nat many 64, rd_I, masked _ hx _ (Nat.min_le_right _ _), I_length]
    refine ift (by omega) (ift (by omega) (ift (by omega) (ift (by omega) (bnd rfl (ift ?_ ?_)))))
    · simp [I]; omega
    · rw [show wrap64 ((many : Int) - ((min many 64 : Nat) : Int)) = ((many - min many 64 : Nat) : Int) by unfold wrap64; omega, inc64 i (by omega)]
      have e3 : ws.getD i 0 % 2 ^ min many 64 ≤ ws.getD i 0 := Nat.mod_le _ _
      have e4 : I ds ++ [((ws.getD i 0 % 2 ^ min many 64 : Nat) : Int) % 4294967296, ((ws.getD i 0 % 2 ^ min many 64 : Nat) : Int) / 4294967296 % 4294967296] = I (ds ++ [ws.getD i 0 % 2 ^ min many 64 % 4294967296, ws.getD i 0 % 2 ^ min many 64 / 4294967296]) := by
        rw [I_append]
        congr 1
        rw [I_cons, I_cons, I_nil, Int.emod_eq_of_lt (a := ((ws.getD i 0 % 2 ^ min many 64 : Nat) : Int) / 4294967296) (by omega) (by omega)]
        rfl
      rw [e4, ih k (i + 1) _ _ (by omega) (by omega) (hd.append (Dig.cons (Nat.mod_lt _ (by decide)) (Dig.cons (by omega) (Dig.nil _)))) (by simp; omega) (by omega)]
      rw [NatT.drop_getD ws i (by omega), attD, List.append_assoc]
      rfl

/-- An attempt: so many words, so many bits of them. -/
theorem attempt (l : List Int) (xs : List Nat) (h : Words l xs) (at_ many : Nat) (hat : at_ ≤ xs.length) (hl : xs.length < 1152921504606) (hm : many < 1152921504606) (k : Nat) (hk : 4 * xs.length + 4 < k) :
    draw_attempt.f k l (at_ : Int) (many : Int) = some (if xs.length - at_ < (many + 63) / 64 then ([], l, (at_ : Int), false) else (I (limbs (val 18446744073709551616 ((xs.drop at_).take ((many + 63) / 64)) % 2 ^ many)), l, ((at_ + (many + 63) / 64 : Nat) : Int), true)) := by
  have hlen := h.length
  unfold draw_attempt.f
  have en : wrap64 (Int.tdiv (wrap64 ((wrap64 ((many : Int) + 64)) - 1)) 64) = (((many + 63) / 64 : Nat) : Int) := by
    rw [show wrap64 ((many : Int) + 64) = ((many + 64 : Nat) : Int) by unfold wrap64; omega, show wrap64 (((many + 64 : Nat) : Int) - 1) = ((many + 63 : Nat) : Int) by unfold wrap64; omega]
    rw [show Int.tdiv ((many + 63 : Nat) : Int) 64 = (((many + 63) / 64 : Nat) : Int) by rw [Int.tdiv_eq_ediv_of_nonneg (by omega)]; omega]
    exact wrap64_nat _ (by omega)
  rw [en]
  generalize hN : (many + 63) / 64 = N
  refine bnd (x := ((xs.length - at_ : Nat) : Int)) ?_ ?_
  · unfold draw_Left.f draw_right.f
    rw [if_pos (by omega), decide_eq_true (by omega)]
    show some (wrap64 _) = _
    rw [hlen]; congr 1; unfold wrap64; omega
  · by_cases hc : xs.length - at_ < N
    · rw [if_pos (by omega), if_pos hc]
    · rw [if_neg (by omega), if_neg hc]
      have c1 : (0 : Int) ≤ ((2 * N : Nat) : Int) := by omega
      have c2 : 2 * N ≤ 70368744177664 := by omega
      have c3 : (0 : Int) ≤ (at_ : Int) := by omega
      have c4 : (at_ : Int) ≤ ((at_ + N : Nat) : Int) := by omega
      have c5 : ((at_ + N : Nat) : Int) ≤ (xs.length : Int) := by omega
      have e1 : wrap64 (2 * (N : Int)) = ((2 * N : Nat) : Int) := by unfold wrap64; omega
      have e2 : wrap64 ((at_ : Int) + (N : Int)) = ((at_ + N : Nat) : Int) := add64 _ _ (by omega)
      rw [e1, e2, Int.toNat_natCast, Int.toNat_natCast, Int.toNat_natCast, hlen]
      refine ift c1 ?_
      refine ift c2 ?_
      refine ift c3 ?_
      refine ift c4 ?_
      refine ift c5 ?_
      refine bnd rfl ?_
      have e3 : (l.take (at_ + N)).drop at_ = I ((xs.drop at_).take N) := by
        rw [h.1, ← List.map_take, ← List.map_drop, List.drop_take, show at_ + N - at_ = N by omega]; rfl
      rw [e3, I_length]
      have hW : ∀ x ∈ (xs.drop at_).take N, x < 18446744073709551616 := fun x hx => h.2 x (List.mem_of_mem_drop (List.mem_of_mem_take hx))
      have hWl : ((xs.drop at_).take N).length = N := by rw [List.length_take, List.length_drop]; omega
      have q1 : ((xs.drop at_).take N).length < 1152921504606 := by clear e1 e2; omega
      have q2 : 2 * ((xs.drop at_).take N).length < 2 * xs.length + 1 := by clear e1 e2; omega
      have q3 : 0 + N = ((xs.drop at_).take N).length := by clear e1 e2; omega
      have q4 : N + (2 * xs.length + 1) < k := by clear e1 e2; omega
      have q5 : many ≤ 64 * ((xs.drop at_).take N).length := by clear e1 e2; omega
      have := att_l0 (N : Int) l (at_ : Int) _ hW q1 (2 * xs.length + 1) q2 N k 0 many [] q3 q4 (Dig.nil _) rfl (Nat.lt_trans hm (by decide))
      rw [List.drop_zero, List.nil_append, attD_val _ _ hW q5, e2] at this
      exact this
end Go.Proofs.Ytpgfadljcmakfaa.DrawT
