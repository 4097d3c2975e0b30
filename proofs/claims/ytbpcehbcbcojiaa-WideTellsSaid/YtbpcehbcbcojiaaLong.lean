import Derived.Test.YtbpcehbcbcojiaaVc
import Derived.Test.YtbpcehbcbcojiaaDiv
import Derived.Test.YtbpcehbcbcojiaaDx4
namespace Go.Proofs.Ytbpcehbcbcojiaa
open Go.RowKit Go.Proofs.YtbpcehbcbcojiaaW.PrintWords Go.Proofs.YtbpcehbcbcojiaaW.PrintLast Go.Proofs.YtbpcehbcbcojiaaW.PrintMore
set_option linter.unusedVariables false
set_option linter.unusedSimpArgs false
theorem dbl_hi (h l : Nat) (h1 : W64 h) (h2 : W64 l) : Go.bits .or .u64 (IntKind.u64.wrap ((h : Int) * 2)) ((l : Int) / 9223372036854775808) = ((h * 2 % 18446744073709551616 + l / 9223372036854775808 : Nat) : Int) := by
 have e1 : IntKind.u64.wrap ((h : Int) * 2) = ((h * 2 % 18446744073709551616 : Nat) : Int) := by rw [D.wrapE]; omega
 have e2 : (l : Int) / 9223372036854775808 = ((l / 9223372036854775808 : Nat) : Int) := by rw [Int.natCast_ediv]; rfl
 have hl : l / 9223372036854775808 < 2 ^ 1 := by omega
 rw [e1, e2, bits_or_u64_nat _ _ (Nat.mod_lt _ (by decide)) (by omega)]
 obtain ⟨m, hm⟩ : ∃ m, h * 2 % 18446744073709551616 = 2 ^ 1 * m := ⟨h * 2 % 18446744073709551616 / 2, by omega⟩
 rw [hm, Nat.two_pow_add_eq_or_of_lt hl]
theorem dbl_lo (l b : Nat) (h2 : W64 l) (hb : b ≤ 1) : Go.bits .or .u64 (IntKind.u64.wrap ((l : Int) * 2)) (b : Int) = ((l * 2 % 18446744073709551616 + b : Nat) : Int) := by
 have e1 : IntKind.u64.wrap ((l : Int) * 2) = ((l * 2 % 18446744073709551616 : Nat) : Int) := by rw [D.wrapE]; omega
 have hl : b < 2 ^ 1 := by omega
 rw [e1, bits_or_u64_nat _ _ (Nat.mod_lt _ (by decide)) (by omega)]
 obtain ⟨m, hm⟩ : ∃ m, l * 2 % 18446744073709551616 = 2 ^ 1 * m := ⟨l * 2 % 18446744073709551616 / 2, by omega⟩
 rw [hm, Nat.two_pow_add_eq_or_of_lt hl]
theorem double_f (n b : Nat) (hn : n < 340282366920938463463374607431768211456) (h3 : b ≤ 1) :
  D.wide_double.f (HI n : Nat) (LO n : Nat) (b : Int) = some (((HI ((2 * n + b) % 340282366920938463463374607431768211456) : Nat) : Int), ((LO ((2 * n + b) % 340282366920938463463374607431768211456) : Nat) : Int), decide (170141183460469231731687303715884105728 ≤ n)) := by
 unfold D.wide_double.f
 have hh := HI_lt hn
 have hl := LO_lt n
 rw [dbl_hi _ _ hh hl, dbl_lo _ _ hl h3]
 have e1 : HI n * 2 % 18446744073709551616 + LO n / 9223372036854775808 = HI ((2 * n + b) % 340282366920938463463374607431768211456) := by unfold HI LO at *; omega
 have e2 : LO n * 2 % 18446744073709551616 + b = LO ((2 * n + b) % 340282366920938463463374607431768211456) := by unfold LO at *; omega
 have e3 : (((HI n : Int) / 9223372036854775808) != 0) = decide (170141183460469231731687303715884105728 ≤ n) := by
  have : ((HI n : Int) / 9223372036854775808) = ((HI n / 9223372036854775808 : Nat) : Int) := by rw [Int.natCast_ediv]; rfl
  rw [this]
  by_cases h : 170141183460469231731687303715884105728 ≤ n
  ·
   rw [decide_eq_true h]; simp only [bne_iff_ne, ne_eq]; unfold HI; omega
  ·
   rw [decide_eq_false h]; simp only [bne_eq_false_iff_eq]; unfold HI; omega
 rw [e1, e2, e3]
theorem V_lt {h l : Nat} (h1 : W64 h) (h2 : W64 l) : V h l < 340282366920938463463374607431768211456 := by unfold V; omega
theorem bit_hi (ah al m : Nat) (h2 : W64 al) (h64 : 64 ≤ m) : ah / 2 ^ (m - 64) % 2 = V ah al / 2 ^ m % 2 := by
 have : V ah al / 2 ^ m = ah / 2 ^ (m - 64) := by
  rw [show (2 : Nat) ^ m = 18446744073709551616 * 2 ^ (m - 64) by rw [show (18446744073709551616 : Nat) = 2 ^ 64 from rfl, ← Nat.pow_add, Nat.add_sub_cancel' h64], ← Nat.div_div_eq_div_mul]
  rw [show V ah al / 18446744073709551616 = ah from HI_V h2]
 rw [this]
theorem bit_lo (ah al m : Nat) (h64 : m < 64) : al / 2 ^ m % 2 = V ah al / 2 ^ m % 2 := by
 have e : V ah al = al + 2 ^ m * (ah * 2 ^ (64 - m)) := by
  rw [Nat.mul_left_comm, ← Nat.pow_add, Nat.add_sub_cancel' (Nat.le_of_lt h64)]; unfold V; rw [Nat.add_comm]
 rw [e, Nat.add_mul_div_left _ _ (Nat.two_pow_pos m)]
 obtain ⟨j, hj⟩ : ∃ j, 64 - m = j + 1 := ⟨64 - m - 1, by omega⟩
 rw [hj, Nat.pow_succ, ← Nat.mul_assoc]
 omega
theorem and_one (x : Nat) (h : x < 18446744073709551616) : Go.bits .and .u64 (x : Int) 1 = ((x % 2 : Nat) : Int) := by
 have := bits_and_u64_nat x 1 h (by decide)
 rw [show ((1 : Nat) : Int) = 1 from rfl] at this
 rw [this, show (1 : Nat) = 2 ^ 1 - 1 from rfl, Nat.and_two_pow_sub_one_eq_mod]
theorem or_one (x : Nat) (h : x < 18446744073709551616) (he : x % 2 = 0) : Go.bits .or .u64 (x : Int) 1 = ((x + 1 : Nat) : Int) := by
 have := bits_or_u64_nat x 1 h (by decide)
 rw [show ((1 : Nat) : Int) = 1 from rfl] at this
 rw [this]
 obtain ⟨y, rfl⟩ : ∃ y, x = 2 ^ 1 * y := ⟨x / 2, by omega⟩
 rw [Nat.two_pow_add_eq_or_of_lt (by decide)]
theorem step_le (M B r q b : Nat) (hr : r = M % B) (hq : q = M / B) (hB : 0 < B) (h : B ≤ 2 * r + b) (hb : b ≤ 1) : (2 * M + b) / B = 2 * q + 1 ∧ (2 * M + b) % B = 2 * r + b - B := by
 have hm := Nat.div_add_mod M B
 have hl := Nat.mod_lt M hB
 rw [← hr] at hl
 rw [← hr, ← hq] at hm
 have e : 2 * M + b = (2 * r + b - B) + B * (2 * q + 1) := by
  rw [← hm, Nat.mul_add, Nat.mul_add, Nat.mul_left_comm]; omega
 rw [e, Nat.add_mul_div_left _ _ hB, Nat.add_mul_mod_self_left, Nat.div_eq_of_lt (by omega), Nat.mod_eq_of_lt (by omega)]
 exact ⟨by omega, rfl⟩
theorem step_lt (M B r q b : Nat) (hr : r = M % B) (hq : q = M / B) (hB : 0 < B) (h : 2 * r + b < B) : (2 * M + b) / B = 2 * q ∧ (2 * M + b) % B = 2 * r + b := by
 have hm := Nat.div_add_mod M B
 rw [← hr, ← hq] at hm
 have e : 2 * M + b = (2 * r + b) + B * (2 * q) := by
  rw [← hm, Nat.mul_add, Nat.mul_left_comm]; omega
 rw [e, Nat.add_mul_div_left _ _ hB, Nat.add_mul_mod_self_left, Nat.div_eq_of_lt h, Nat.mod_eq_of_lt h]
 exact ⟨by omega, rfl⟩
theorem order_f (a b : Nat) : D.wide_order.f (a : Int) (b : Int) = some (if a < b then -1 else if b < a then 1 else 0) := by
 unfold D.wide_order.f
 by_cases h : a < b
 ·
  rw [if_pos (by omega), if_pos h]
 ·
  rw [if_neg (by omega), if_neg h]
  by_cases h2 : b < a
  ·
   rw [if_pos (by omega), if_pos h2]
  ·
   rw [if_neg (by omega), if_neg h2]
theorem cmp_f (ah al bh bl : Nat) (h2 : W64 al) (h4 : W64 bl) : D.wide_Cmp.f (ah : Int) (al : Int) (bh : Int) (bl : Int) = some (cmpR (V ah al) (V bh bl)) := by
 unfold D.wide_Cmp.f
 refine D.bnd (order_f ah bh) ?_
 unfold cmpR V
 by_cases h : ah < bh
 ·
  rw [if_pos h, if_neg (by decide), if_pos (by omega)]
 ·
  rw [if_neg h]
  by_cases h' : bh < ah
  ·
   rw [if_pos h', if_neg (by decide), if_neg (by omega), if_pos (by omega)]
  ·
   rw [if_neg h', if_pos rfl]
   refine D.bnd (order_f al bl) ?_
   obtain rfl : ah = bh := by omega
   congr 1
   by_cases k : al < bl
   ·
    rw [if_pos k, if_pos (by omega)]
   ·
    rw [if_neg k, if_neg (show ¬ ah * 18446744073709551616 + al < ah * 18446744073709551616 + bl by omega)]
    by_cases k' : bl < al
    ·
     rw [if_pos k', if_pos (by omega)]
    ·
     rw [if_neg k', if_neg (by omega)]
theorem subs (x r' bh bl s : Nat) (h3 : W64 bh) (h4 : W64 bl) (hs : s < 2 * V bh bl) (hx : x = s % 340282366920938463463374607431768211456) (e : r' = s - V bh bl) (h : V bh bl ≤ s) :
  ∃ c k, c ≤ 1 ∧ k ≤ 1 ∧ LO x + 18446744073709551616 * c = LO r' + bl + 0 ∧ HI x + 18446744073709551616 * k = HI r' + bh + c := by
 refine ⟨(LO r' + bl) / 18446744073709551616, (HI r' + bh + (LO r' + bl) / 18446744073709551616) / 18446744073709551616, ?_, ?_, ?_, ?_⟩ <;> (simp only [LO, HI, V] at *; omega)
theorem halve (N m : Nat) : N / 2 ^ m = 2 * (N / 2 ^ (m + 1)) + N / 2 ^ m % 2 := by
 rw [Nat.pow_succ, ← Nat.div_div_eq_div_mul]; omega
theorem sub_f (x y b d k : Nat) (hb : b ≤ 1) (hk : k ≤ 1) (h : x + 18446744073709551616 * k = d + y + b) (hd : W64 d) (hx : W64 x) (hy : W64 y) : D.bits_Sub64.f (x : Int) (y : Int) (b : Int) = some ((d : Int), (k : Int)) := by
 unfold D.bits_Sub64.f
 rw [if_pos (by omega)]
 congr 1
 refine Prod.ext ?_ ?_
 ·
  show ((x : Int) - y - b) % 18446744073709551616 = d; omega
 ·
  show (if (x : Int) < y + b then (1 : Int) else 0) = k; split <;> omega
set_option maxHeartbeats 1000000 in
theorem long_loop (ah al bh bl : Nat) (h1 : W64 ah) (h2 : W64 al) (h3 : W64 bh) (h4 : W64 bl) (hB : 0 < V bh bl) (m : Nat) : ∀ k, m ≤ 128 → 3 * m < k →
  D.wide_long.l0 k ((m : Int) - 1) (ah : Int) (al : Int) (bh : Int) (bl : Int) (HI (V ah al / 2 ^ m / V bh bl) : Nat) (LO (V ah al / 2 ^ m / V bh bl) : Nat) (HI (V ah al / 2 ^ m % V bh bl) : Nat) (LO (V ah al / 2 ^ m % V bh bl) : Nat) =
   some (((HI (V ah al / V bh bl) : Nat) : Int), ((LO (V ah al / V bh bl) : Nat) : Int), ((HI (V ah al % V bh bl) : Nat) : Int), ((LO (V ah al % V bh bl) : Nat) : Int)) := by
 induction m with
 | zero =>
  intro k hm hk
  obtain ⟨k, rfl⟩ : ∃ j, k = j + 1 := ⟨k - 1, by omega⟩
  simp only [D.wide_long.l0]
  rw [if_neg (by omega), Nat.pow_zero, Nat.div_one]
 | succ m ih =>
  intro k hm hk
  obtain ⟨k, rfl⟩ : ∃ j, k = j + 1 + 1 + 1 := ⟨k - 3, by omega⟩
  have ei : (((m + 1 : Nat) : Int) - 1) = (m : Int) := by omega
  rw [ei]
  have IH := ih k (by omega) (by omega)
  clear ih ei
  have hN := V_lt h1 h2
  have hBl := V_lt h3 h4
  obtain ⟨b, hbe⟩ : ∃ b, b = V ah al / 2 ^ m % 2 := ⟨_, rfl⟩
  have hb1 : b ≤ 1 := by omega
  have hhv := halve (V ah al) m
  rw [← hbe] at hhv
  have hM : V ah al / 2 ^ m < 340282366920938463463374607431768211456 := Nat.lt_of_le_of_lt (Nat.div_le_self _ _) hN
  have hw : wrap64 ((m : Int) - 1) = (m : Int) - 1 := by unfold wrap64; omega
  have hj : D.wide_long.l0 (k + 1 + 1 + 1) (m : Int) (ah : Int) (al : Int) (bh : Int) (bl : Int) (HI (V ah al / 2 ^ (m + 1) / V bh bl) : Nat) (LO (V ah al / 2 ^ (m + 1) / V bh bl) : Nat) (HI (V ah al / 2 ^ (m + 1) % V bh bl) : Nat) (LO (V ah al / 2 ^ (m + 1) % V bh bl) : Nat)
    = D.wide_long.j1 (k + 1 + 1) (m : Int) (b : Int) (ah : Int) (al : Int) (bh : Int) (bl : Int) (HI (V ah al / 2 ^ (m + 1) / V bh bl) : Nat) (LO (V ah al / 2 ^ (m + 1) / V bh bl) : Nat) (HI (V ah al / 2 ^ (m + 1) % V bh bl) : Nat) (LO (V ah al / 2 ^ (m + 1) % V bh bl) : Nat) := by
   simp only [D.wide_long.l0]
   rw [if_pos (Int.natCast_nonneg _), if_pos (Int.natCast_nonneg _)]
   by_cases h64 : 64 ≤ m
   ·
    have e1 : wrap64 ((m : Int) - 64) = ((m - 64 : Nat) : Int) := by unfold wrap64; omega
    rw [if_pos (by omega), e1, if_pos (Int.natCast_nonneg _), D.shr_nat _ _ (by omega), and_one _ (Nat.lt_of_le_of_lt (Nat.div_le_self _ _) h1), bit_hi ah al m h2 h64, ← hbe]
   ·
    rw [if_neg (by omega), D.shr_nat _ _ (by omega), and_one _ (Nat.lt_of_le_of_lt (Nat.div_le_self _ _) h2), bit_lo ah al m (by omega), ← hbe]
  rw [hj]
  clear hj
  obtain ⟨M, hMe⟩ : ∃ M, M = V ah al / 2 ^ (m + 1) := ⟨_, rfl⟩
  rw [← hMe] at hhv ⊢
  rw [hhv] at hM IH
  obtain ⟨r, hr⟩ : ∃ r, r = M % V bh bl := ⟨_, rfl⟩
  obtain ⟨q, hq⟩ : ∃ q, q = M / V bh bl := ⟨_, rfl⟩
  rw [← hr, ← hq]
  have hrl : r < V bh bl := by rw [hr]; exact Nat.mod_lt _ hB
  have hql : q ≤ M := by rw [hq]; exact Nat.div_le_self _ _
  have hrn : r < 340282366920938463463374607431768211456 := Nat.lt_trans hrl hBl
  simp only [D.wide_long.j1]
  have F1 := double_f r b hrn hb1
  have F2 := double_f q 0 (by omega) (by decide)
  have eq2 : (2 * q + 0) % 340282366920938463463374607431768211456 = 2 * q := by rw [Nat.add_zero]; exact Nat.mod_eq_of_lt (by omega)
  rw [eq2] at F2
  refine D.bnd F1 ?_
  refine D.bnd F2 ?_
  dsimp only
  have hF3 := cmp_f (HI ((2 * r + b) % 340282366920938463463374607431768211456)) (LO ((2 * r + b) % 340282366920938463463374607431768211456)) bh bl (LO_lt _) h4
  rw [V_HILO] at hF3
  by_cases hge : V bh bl ≤ 2 * r + b
  ·
   obtain ⟨e1, e2⟩ := step_le M (V bh bl) r q b hr hq hB hge hb1
   rw [e1, e2] at IH
   have hj2 : (if decide (170141183460469231731687303715884105728 ≤ r) = true then D.wide_long.j2 (k + 1) (m : Int) true (ah : Int) (al : Int) (bh : Int) (bl : Int) (HI (2 * q) : Nat) (LO (2 * q) : Nat) (HI ((2 * r + b) % 340282366920938463463374607431768211456) : Nat) (LO ((2 * r + b) % 340282366920938463463374607431768211456) : Nat)
     else (D.wide_Cmp.f (HI ((2 * r + b) % 340282366920938463463374607431768211456) : Nat) (LO ((2 * r + b) % 340282366920938463463374607431768211456) : Nat) (bh : Int) (bl : Int)).bind fun t121 => D.wide_long.j2 (k + 1) (m : Int) (decide (t121 ≥ 0)) (ah : Int) (al : Int) (bh : Int) (bl : Int) (HI (2 * q) : Nat) (LO (2 * q) : Nat) (HI ((2 * r + b) % 340282366920938463463374607431768211456) : Nat) (LO ((2 * r + b) % 340282366920938463463374607431768211456) : Nat))
     = D.wide_long.j2 (k + 1) (m : Int) true (ah : Int) (al : Int) (bh : Int) (bl : Int) (HI (2 * q) : Nat) (LO (2 * q) : Nat) (HI ((2 * r + b) % 340282366920938463463374607431768211456) : Nat) (LO ((2 * r + b) % 340282366920938463463374607431768211456) : Nat) := by
    by_cases hlo : 170141183460469231731687303715884105728 ≤ r
    ·
     rw [if_pos (decide_eq_true hlo)]
    ·
     rw [if_neg (by rw [decide_eq_true_iff]; exact hlo)]
     refine D.bnd hF3 ?_
     have : (2 * r + b) % 340282366920938463463374607431768211456 = 2 * r + b := Nat.mod_eq_of_lt (by omega)
     rw [this, show decide (cmpR (2 * r + b) (V bh bl) ≥ 0) = true from decide_eq_true (by unfold cmpR; rw [if_neg (by omega)]; split <;> decide)]
   rw [hj2]
   clear hj2
   simp only [D.wide_long.j2]
   rw [if_pos trivial]
   have hr' : 2 * r + b - V bh bl < 340282366920938463463374607431768211456 := by omega
   obtain ⟨c, kk, hc, hk, s1, s2⟩ := subs ((2 * r + b) % 340282366920938463463374607431768211456) (2 * r + b - V bh bl) bh bl (2 * r + b) h3 h4 (by omega) rfl rfl hge
   refine D.bnd (sub_f _ bl 0 _ c (by omega) hc s1 (LO_lt _) (LO_lt _) h4) ?_
   refine D.bnd (sub_f _ bh c _ kk hc hk s2 (HI_lt hr') (HI_lt (Nat.mod_lt _ (by decide))) h3) ?_
   dsimp only
   have o1 : Go.bits .or .u64 ((LO (2 * q) : Nat) : Int) 1 = ((LO (2 * q + 1) : Nat) : Int) := by
    rw [or_one _ (LO_lt _) (by unfold LO; omega)]; unfold LO; congr 1; omega
   have o2 : HI (2 * q) = HI (2 * q + 1) := by unfold HI; omega
   rw [o1, o2, hw]
   exact IH
  ·
   obtain ⟨e1, e2⟩ := step_lt M (V bh bl) r q b hr hq hB (by omega)
   rw [e1, e2] at IH
   have hx : (2 * r + b) % 340282366920938463463374607431768211456 = 2 * r + b := Nat.mod_eq_of_lt (by omega)
   rw [hx] at hF3 ⊢
   rw [if_neg (by rw [decide_eq_true_iff]; omega)]
   refine D.bnd hF3 ?_
   rw [show decide (cmpR (2 * r + b) (V bh bl) ≥ 0) = false from decide_eq_false (by unfold cmpR; rw [if_pos (by omega)]; decide)]
   simp only [D.wide_long.j2]
   rw [if_neg (by decide), hw]
   exact IH
theorem long_f (ah al bh bl : Nat) (h1 : W64 ah) (h2 : W64 al) (h3 : W64 bh) (h4 : W64 bl) (hB : 0 < V bh bl) :
  D.wide_long.f 400 (ah : Int) (al : Int) (bh : Int) (bl : Int) = some (((HI (V ah al / V bh bl) : Nat) : Int), ((LO (V ah al / V bh bl) : Nat) : Int), ((HI (V ah al % V bh bl) : Nat) : Int), ((LO (V ah al % V bh bl) : Nat) : Int)) := by
 have h := long_loop ah al bh bl h1 h2 h3 h4 hB 128 400 (by decide) (by decide)
 have e : V ah al / 2 ^ 128 = 0 := Nat.div_eq_of_lt (V_lt h1 h2)
 rw [e, Nat.zero_div, Nat.zero_mod] at h
 exact h
#print axioms long_f
end Go.Proofs.Ytbpcehbcbcojiaa
