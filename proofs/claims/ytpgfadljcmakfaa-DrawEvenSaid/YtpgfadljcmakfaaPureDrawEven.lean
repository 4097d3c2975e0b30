/- DrawEven, over numbers and lists: each number below the bound comes of just one of all words up to the mask. -/
import Derived.Test.YtpgfadljcmakfaaQx13
import Derived.Test.YtpgfadljcmakfaaBelow
namespace Go.Proofs.Ytpgfadljcmakfaa.Pure
open Go.RowKit Go.Proofs.Ytpgfadljcmakfaa.Q Go.Proofs.YtpgfadljcmakfaaW.PrintWords Go.Proofs.YtpgfadljcmakfaaW.PrintLast Go.Proofs.Ytpgfadljcmakfaa.Draw
open Go.Proofs.Ytpgfadljcmakfaa.Limb (I I_length I_set I_replicate rd_I)
open Go.Proofs.Ytpgfadljcmakfaa.Nat (succ_of pred64 inc64 add64)

theorem awake_ (k : Nat) (h : 30 ≤ k) : samphirelaw07_awake.f k = some true := by
  obtain ⟨j, rfl⟩ : ∃ j, k = 30 + j := ⟨k - 30, by omega⟩
  exact awake j

/-- The bits ahead of the mask. -/
theorem above (h t : Nat) (hh : h < 18446744073709551616) (_ : t ≤ 64) : Go.bits .andNot .u64 (h : Int) ((2 ^ t - 1 : Nat) : Int) = ((2 ^ t * (h / 2 ^ t) : Nat) : Int) := by
  have h1 : (BitVec.ofInt 64 (h : Int)) = BitVec.ofNat 64 h := BitVec.ofInt_natCast ..
  have h2 : (BitVec.ofInt 64 ((2 ^ t - 1 : Nat) : Int)) = BitVec.ofNat 64 (2 ^ t - 1) := BitVec.ofInt_natCast ..
  show IntKind.u64.wrap ((BitVec.ofInt 64 (h : Int) &&& ~~~ BitVec.ofInt 64 ((2 ^ t - 1 : Nat) : Int)).toNat : Int) = _
  rw [h1, h2]
  have e : (BitVec.ofNat 64 h &&& ~~~ BitVec.ofNat 64 (2 ^ t - 1)) = BitVec.ofNat 64 (2 ^ t * (h / 2 ^ t)) := by
    apply BitVec.eq_of_getLsbD_eq
    intro i hi
    rw [BitVec.getLsbD_and, BitVec.getLsbD_not, BitVec.getLsbD_ofNat, BitVec.getLsbD_ofNat, BitVec.getLsbD_ofNat, Nat.testBit_two_pow_sub_one, Nat.testBit_two_pow_mul, Nat.testBit_div_two_pow]
    simp only [hi, decide_true, Bool.true_and]
    by_cases hc : i < t
    · rw [decide_eq_true hc, decide_eq_false (by omega)]; simp
    · rw [decide_eq_false hc, decide_eq_true (by omega), show i - t + t = i by omega]; simp
  have hle : 2 ^ t * (h / 2 ^ t) ≤ h := Nat.mul_div_le h (2 ^ t)
  rw [e, BitVec.toNat_ofNat, IntKind.wrap_u64]
  omega
theorem joined (t q x : Nat) (hx : x < 2 ^ t) (hw : 2 ^ t * q < 18446744073709551616) (h2 : x < 18446744073709551616) : ∃ w : Nat, Go.bits .or .u64 ((2 ^ t * q : Nat) : Int) (x : Int) = (w : Int) ∧ w < 18446744073709551616 ∧ w % 2 ^ t = x := by
  refine ⟨2 ^ t * q ||| x, bits_or_u64_nat _ _ hw h2, ?_, ?_⟩
  · exact Nat.or_lt_two_pow (n := 64) hw h2
  · rw [← Nat.two_pow_add_eq_or_of_lt hx, Nat.mul_add_mod, Nat.mod_eq_of_lt hx]

/-- How often each number came, so far. -/
def many (d x : Nat) : List Nat := List.replicate (min x d) 1 ++ List.replicate (d - x) 0
theorem many_len (d x : Nat) : (many d x).length = d := by simp [many]; omega
theorem many_get (d x : Nat) (h : x < d) : (many d x).getD x 0 = 0 := by
  unfold many
  rw [List.getD_eq_getElem?_getD, List.getElem?_append_right (by simp; omega), List.getElem?_replicate]
  split <;> rfl
theorem many_set (d x : Nat) (h : x < d) : (many d x).set x 1 = many d (x + 1) := by
  unfold many
  rw [List.set_append_right _ _ (by simp; omega), List.length_replicate, Nat.min_eq_left (by omega), Nat.min_eq_left (by omega), Nat.sub_self]
  obtain ⟨r, hr⟩ : ∃ r, d - x = r + 1 := ⟨d - x - 1, by omega⟩
  rw [hr, List.replicate_succ, List.set_cons_zero, show d - (x + 1) = r by omega, List.replicate_succ', List.append_assoc]; rfl
theorem many_over (d x : Nat) (h : d ≤ x) : many d (x + 1) = many d x := by
  unfold many; rw [Nat.min_eq_right (by omega), Nat.min_eq_right h, show d - (x + 1) = 0 by omega, show d - x = 0 by omega]
theorem many_all (d x : Nat) (h : d ≤ x) : many d x = List.replicate d 1 := by
  unfold many; rw [Nat.min_eq_right h, show d - x = 0 by omega]; simp

theorem l2_ (d : Nat) (hd : d < 9223372036854775807) (n : Nat) : ∀ (k i : Nat), i + n = d → n + 40 < k → samphirelaw07_DrawEven.l2 k (I (List.replicate d 1)) (d : Int) (i : Int) = some true := by
  induction n with
  | zero =>
    intro k i hi hk
    obtain ⟨k, rfl, hk⟩ := succ_of hk
    rw [samphirelaw07_DrawEven.l2]
    exact iff_ (by omega) (bnd (awake_ k (by omega)) rfl)
  | succ n ih =>
    intro k i hi hk
    obtain ⟨k, rfl, hk⟩ := succ_of hk
    rw [samphirelaw07_DrawEven.l2, I_length, List.length_replicate, rd_I, inc64 i (by omega)]
    refine ift (by omega) (ift (by omega) (ift (by omega) (ift ?_ (ih k (i + 1) (by omega) (by omega)))))
    rw [List.getD_eq_getElem?_getD, List.getElem?_replicate, if_pos (by omega)]; rfl

theorem l1_ (h d t : Nat) (hh : h < 18446744073709551616) (hd0 : 0 < d) (hd : d ≤ 4096) (ht : blen (d - 1) = t) (hT : d ≤ 2 ^ t) (hT2 : 2 ^ t ≤ 4096) (ht12 : t ≤ 12) (n : Nat) : ∀ (k x : Nat), x + n = 2 ^ t → 3 * n + d + 50 < k →
    samphirelaw07_DrawEven.l1 k (h : Int) (d : Int) ((2 ^ t : Nat) : Int) (I (many d x)) ((2 ^ t : Nat) : Int) (x : Int) = some true := by
  induction n with
  | zero =>
    intro k x hx hk
    obtain ⟨k, rfl, hk⟩ := succ_of hk
    rw [samphirelaw07_DrawEven.l1, I_length, many_len, many_all d x (by omega)]
    exact iff_ (by omega) (l2_ d (by omega) d k 0 (by omega) (by omega))
  | succ n ih =>
    intro k x hx hk
    obtain ⟨k, rfl, hk⟩ := succ_of hk
    rw [samphirelaw07_DrawEven.l1]
    refine ift (by omega) ?_
    have hp := Nat.two_pow_pos t
    rw [show IntKind.u64.wrap (((2 ^ t : Nat) : Int) - 1) = ((2 ^ t - 1 : Nat) : Int) by rw [IntKind.wrap_u64]; omega, above h t hh (by omega)]
    have hq : 2 ^ t * (h / 2 ^ t) ≤ h := Nat.mul_div_le h (2 ^ t)
    obtain ⟨w, hw1, hw2, hw3⟩ := joined t (h / 2 ^ t) x (by omega) (by omega) (by omega)
    rw [hw1]
    have hb0 : 2 ^ t * (h / 2 ^ t) % 2 ^ t = 0 := Nat.mul_mod_right ..
    have hb := below d t hd0 (by omega) (by rw [bitLen_blen _ (by omega), ht]) (by omega) (l := [(w : Int), ((2 ^ t * (h / 2 ^ t) : Nat) : Int)]) (xs := [w, 2 ^ t * (h / 2 ^ t)]) ⟨rfl, fun y hy => by
      rcases List.mem_cons.1 hy with rfl | hy
      · exact hw2
      · rw [List.mem_singleton.1 hy]; omega⟩ 0 (Nat.zero_le _) (show 2 < 4611686018427387904 by omega) k (show 2 < k by omega)
    refine bnd hb ?_
    clear hb
    have hmx : ∀ r : Nat, r < d → (IntKind.u64.wrap ((x : Int) + 1) = ((x + 1 : Nat) : Int)) := fun r _ => by rw [IntKind.wrap_u64]; omega
    have e1 := hmx 0 hd0
    obtain ⟨k, rfl⟩ : ∃ j, k = j + 2 := ⟨k - 2, by omega⟩
    by_cases ht0 : t = 0
    · subst ht0
      have hd1 : d = 1 := by rw [Nat.pow_zero] at hT; omega
      have hx0 : x = 0 := by rw [Nat.pow_zero] at hx; omega
      subst hd1 hx0
      rw [if_pos rfl]
      refine ift rfl ?_
      rw [show decide ((0 : Int) ≥ ((1 : Nat) : Int)) = false by decide]
      rw [samphirelaw07_DrawEven.j2]
      refine iff_ (by decide) (iff_ (by decide) (ift rfl ?_))
      rw [samphirelaw07_DrawEven.j3, show (((0 : Nat) : Int) != 0) = false by decide]
      refine iff_ (by decide) (ift (show ((0 : Nat) : Int) < 2 by decide) (ift (show (0 : Int) ≤ 0 by decide) (ift (show (0 : Int) < ((I (many 1 0)).length : Int) by decide) ?_)))
      have := ih k 1 (by omega) (by omega)
      have e9 : (I (many 1 0)).set (0 : Int).toNat (wrap64 (rd (I (many 1 0)) (0 : Int) + 1)) = I (many 1 1) := by decide +kernel
      rw [e1]
      show samphirelaw07_DrawEven.l1 k _ _ _ ((I (many 1 0)).set (0 : Int).toNat (wrap64 (rd (I (many 1 0)) (0 : Int) + 1))) _ _ = _
      rw [e9]
      exact this
    · rw [if_neg ht0, List.drop_zero, pick, hw3]
      by_cases hxd : x < d
      · rw [if_pos hxd]
        refine ift rfl ?_
        rw [show decide ((x : Int) ≥ (d : Int)) = false from decide_eq_false (by omega)]
        rw [samphirelaw07_DrawEven.j2]
        refine iff_ (by decide) ?_
        have hd2 : ¬ ((d : Int) = 1) := fun e => by
          have : d = 1 := by omega
          subst this
          exact ht0 (by rw [← ht]; rfl)
        refine ift (by omega) (ift rfl (iff_ hd2 ?_))
        rw [samphirelaw07_DrawEven.j3]
        refine iff_ (by decide) (ift (by show ((0 + (0 + 1) : Nat) : Int) < 2; decide) (ift (show (0 : Int) ≤ (x : Int) by omega) (ift (show (x : Int) < ((I (many d x)).length : Int) by rw [I_length, many_len]; omega) ?_)))
        show samphirelaw07_DrawEven.l1 k _ _ _ ((I (many d x)).set (x : Int).toNat (wrap64 (rd (I (many d x)) (x : Int) + 1))) _ _ = _
        rw [e1, rd_I, many_get d x hxd, show wrap64 (((0 : Nat) : Int) + 1) = ((1 : Nat) : Int) by decide +kernel, Int.toNat_natCast, I_set, many_set d x hxd]
        exact ih k (x + 1) (by omega) (by omega)
      · rw [if_neg hxd, pick, hb0, if_pos hd0]
        refine ift rfl ?_
        rw [show decide (((0 : Nat) : Int) ≥ (d : Int)) = false from decide_eq_false (by omega)]
        rw [samphirelaw07_DrawEven.j2]
        refine iff_ (by decide) ?_
        have hd2 : ¬ ((d : Int) = 1) := fun e => by
          have : d = 1 := by omega
          subst this
          exact ht0 (by rw [← ht]; rfl)
        refine ift (by omega) (iff_ (show ¬ ((0 + (0 + 1 + 1) : Nat) : Int) = 1 by decide) (ift rfl (iff_ (by omega) (ift rfl (iff_ hd2 ?_)))))
        rw [samphirelaw07_DrawEven.j3]
        refine iff_ (by decide) (iff_ (by show ¬ ((0 + (0 + 1 + 1) : Nat) : Int) < 2; decide) ?_)
        rw [e1, ← many_over d x (by omega)]
        exact ih k (x + 1) (by omega) (by omega)

theorem l0_ (h d t : Nat) (hh : h < 18446744073709551616) (hd0 : 0 < d) (hd : d ≤ 4096) (ht : blen (d - 1) = t) (hT : d ≤ 2 ^ t) (hlow : ∀ s, s < t → 2 ^ s < d) (ht12 : t ≤ 12) (hT2 : 2 ^ t ≤ 4096) (n : Nat) : ∀ (k s : Nat), s + n = t → n + 20000 < k →
    samphirelaw07_DrawEven.l0 k (h : Int) (d : Int) ((2 ^ s : Nat) : Int) = some true := by
  induction n with
  | zero =>
    intro k s hs hk
    obtain ⟨k, rfl, hk⟩ := succ_of hk
    obtain rfl : s = t := by omega
    rw [samphirelaw07_DrawEven.l0]
    refine iff_ (by omega) (ift (by omega) (ift (by omega) ?_))
    rw [Int.toNat_natCast, I_replicate]
    have := l1_ h d s hh hd0 hd ht hT hT2 ht12 (2 ^ s) k 0 (by omega) (by omega)
    have e : many d 0 = List.replicate d 0 := by unfold many; simp
    rw [e] at this
    exact this
  | succ n ih =>
    intro k s hs hk
    obtain ⟨k, rfl, hk⟩ := succ_of hk
    have h1 := hlow s (by omega)
    rw [samphirelaw07_DrawEven.l0]
    refine ift (by omega) ?_
    have e : IntKind.u64.wrap (2 * ((2 ^ s : Nat) : Int)) = ((2 ^ (s + 1) : Nat) : Int) := by rw [IntKind.wrap_u64, Nat.pow_succ]; omega
    rw [e]
    exact ih k (s + 1) (by omega) (by omega)

theorem DrawEven : samphirelaw07_DrawEven.Pure := by
  intro a0 a1 h0 h1
  have h0' : 0 ≤ a0 ∧ a0 < 65536 := by simp [Lit.wf, IntKind.min, IntKind.max, IntKind.signed, IntKind.bits] at h0; omega
  have h1' : 0 ≤ a1 ∧ a1 < 18446744073709551616 := by simp [Lit.wf, IntKind.min, IntKind.max, IntKind.signed, IntKind.bits] at h1; omega
  obtain ⟨b, rfl⟩ : ∃ a : Nat, a0 = (a : Int) := ⟨a0.toNat, by omega⟩
  obtain ⟨h, rfl⟩ : ∃ a : Nat, a1 = (a : Int) := ⟨a1.toNat, by omega⟩
  refine ⟨20100, ?_⟩
  unfold samphirelaw07_DrawEven.f
  have e : IntKind.u64.wrap (1 + IntKind.u64.wrap (Int.tmod (b : Int) 4096)) = ((b % 4096 + 1 : Nat) : Int) := by
    rw [Int.tmod_eq_emod_of_nonneg (by omega)]; simp only [IntKind.wrap_u64]; omega
  rw [e]
  have hd : b % 4096 + 1 ≤ 4096 := by omega
  generalize hD : b % 4096 + 1 = d at hd
  have hd0 : 0 < d := by omega
  have hb := blen_lt (d - 1)
  have hl : blen (d - 1) ≤ 12 := blen_le _ 12 (by omega)
  refine l0_ h d (blen (d - 1)) (by omega) hd0 hd rfl (by omega) ?_ hl ?_ (blen (d - 1)) 20100 0 (by omega) (by omega)
  · intro s hs
    rcases Nat.lt_or_ge (d - 1) (2 ^ s) with hlt | hge
    · have := blen_le _ _ hlt; omega
    · omega
  · exact Nat.pow_le_pow_right (n := 2) (by decide) hl
end Go.Proofs.Ytpgfadljcmakfaa.Pure
