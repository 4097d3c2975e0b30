/- DrawTells, over numbers and lists: what any words give, below any bound, and how many of them are taken, is what the document says, or refused. -/
import Derived.Test.YtpgfadljcmakfaaTx9
import Derived.Test.YtpgfadljcmakfaaRefV
namespace Go.Proofs.Ytpgfadljcmakfaa.Pure
open Go.RowKit Go.Proofs.Ytpgfadljcmakfaa.Q Go.Proofs.Ytpgfadljcmakfaa.T Go.Proofs.YtpgfadljcmakfaaW.PrintWords Go.Proofs.YtpgfadljcmakfaaW.PrintLast Go.Proofs.Ytpgfadljcmakfaa.DrawT
open Go.Proofs.Ytpgfadljcmakfaa.Limb (I I_length limbs limbs_zero val limbs_len Dig)
set_option linter.unusedVariables false
set_option exponentiation.threshold 4096
theorem awakeT (K : Nat) (h : 30 ≤ K) : samphirelaw07_awake.f K = some true := by
  have := awake (K - 30)
  rwa [show 30 + (K - 30) = K by omega] at this
theorem pick_both (m d : Nat) (h0 : m ≠ 0) (hm : m ≤ 64) (xs : List Nat) (f : Nat) : ∀ i, i ≤ xs.length → xs.length - i < f → pickN m d xs f i = pick (2 ^ m) d (xs.drop i) i := by
  induction f with
  | zero => intro i _ h; omega
  | succ f ih =>
    intro i hi hf
    rw [pickN, show (m + 63) / 64 = 1 by omega]
    by_cases hc : xs.length - i < 1
    · rw [if_pos hc, List.drop_of_length_le (by omega), pick]
    · rw [if_neg hc, NatT.drop_getD xs i (by omega), pick, show (xs.getD i 0 :: xs.drop (i + 1)).take 1 = [xs.getD i 0] from rfl, val, val, Nat.mul_zero, Nat.add_zero, ih (i + 1) (by omega) (by omega)]
theorem pick_shift (M d : Nat) : ∀ (l : List Nat) (i a : Nat), pick M d l (a + i) = (pick M d l i).map (fun r => (r.1, a + r.2)) := by
  intro l
  induction l with
  | nil => intro i a; rfl
  | cons y l ih =>
    intro i a
    rw [pick, pick]
    by_cases hc : y % M < d
    · rw [if_pos hc, if_pos hc]; rfl
    · rw [if_neg hc, if_neg hc, Nat.add_assoc, ih]
theorem pick_lt (M d : Nat) : ∀ (l : List Nat) (i x j : Nat), pick M d l i = some (x, j) → x < d := by
  intro l
  induction l with
  | nil => intro i x j h; cases h
  | cons y l ih =>
    intro i x j h
    rw [pick] at h
    split at h
    · rename_i hlt; cases h; exact hlt
    · exact ih _ _ _ h
theorem right_no (l : List Int) (a : Int) (h : ¬ (0 ≤ a ∧ a ≤ (l.length : Int))) : draw_right.f l a = some false := by
  unfold draw_right.f
  by_cases h1 : a ≥ 0
  · rw [if_pos h1, decide_eq_false (by omega)]
  · rw [if_neg h1]
theorem right_yes (l : List Int) (a : Int) (h : 0 ≤ a ∧ a ≤ (l.length : Int)) : draw_right.f l a = some true := by
  unfold draw_right.f
  rw [if_pos h.1, decide_eq_true h.2]
theorem ref_out (K n : Nat) (hn : 0 < n) (hnl : (limbs n).length ≤ 64) (l : List Int) (a : Int) (h : ¬ (0 ≤ a ∧ a ≤ (l.length : Int))) (hK : 0 < K) : samphireref07_Below.f K l a (I (limbs n)) = some ([], l, a, 1) := by
  have hne := Limb.limbs_ne_nil n (by omega)
  obtain ⟨K, rfl⟩ : ∃ j, K = j + 1 := ⟨K - 1, by omega⟩
  have hj : ∀ b, b = true → samphireref07_Below.j0 (K + 1) (I (limbs n)) b l a = some ([], l, a, 1) := fun b hb => by rw [hb, samphireref07_Below.j0, if_pos rfl]
  unfold samphireref07_Below.f
  rw [rright _ (by omega), NatT.right_limbs n hnl, Option.bind_some, if_pos rfl, if_neg (by rw [I_length]; omega)]
  by_cases h1 : a < 0
  · rw [if_pos h1]; exact hj _ rfl
  · rw [if_neg h1]; exact hj _ (decide_eq_true (by omega))
theorem partA (K d : Nat) (hd : d < 18446744073709551616) (l : List Int) (xs : List Nat) (h : Words l xs) (hl : xs.length ≤ 60) (a : Int) (hK : 20000 ≤ K) :
    ∃ (v : Nat) (p e : Int), draw_Below.f K l a (d : Int) = some ((v : Int), l, p, e) ∧ samphireref07_Below.f K l a (I (limbs d)) = some (I (limbs v), l, p, e) ∧ v < 18446744073709551616 := by
  have hlen := h.length
  have hnl : (limbs d).length ≤ 64 := (limbs_len d 64).2 (Nat.lt_of_lt_of_le hd (Nat.le_trans (by decide : 18446744073709551616 ≤ 4294967296 ^ 2) (Nat.pow_le_pow_right (by decide) (by decide))))
  rcases Nat.eq_zero_or_pos d with rfl | hd0
  · refine ⟨0, a, 7, ?_, ?_, by decide⟩
    · unfold draw_Below.f; exact if_pos rfl
    · unfold samphireref07_Below.f
      rw [limbs_zero]; rfl
  · by_cases ha : 0 ≤ a ∧ a ≤ (l.length : Int)
    · obtain ⟨at_, rfl⟩ : ∃ n : Nat, a = n := ⟨a.toNat, by omega⟩
      have hm64 : blen (d - 1) ≤ 64 := blen_le _ 64 (by omega)
      have e0 : Lib.bitLen (d - 1) = blen (d - 1) := bitLen_blen (d - 1) (by omega)
      have hB := below d (blen (d - 1)) hd0 hd e0 hm64 h at_ (by omega) (by omega) K (by omega)
      have hN := rbelow d hd0 hnl l xs h hl at_ (by omega) K hK
      have hlt := blen_lt (d - 1)
      generalize blen (d - 1) = m at hB hN hm64 hlt
      rw [hB, hN]
      by_cases hm0 : m = 0
      · subst hm0
        have hd1 : d = 1 := by rw [Nat.pow_zero] at hlt; omega
        have ep : pickN 0 d xs (xs.length + 1) at_ = some (0, at_) := by
          rw [pickN, if_neg (by omega), Nat.pow_zero, Nat.mod_one, if_pos (by omega)]; rfl
        rw [ep, if_pos rfl]
        exact ⟨0, at_, 0, rfl, rfl, by decide⟩
      · have hsh := pick_shift (2 ^ m) d (xs.drop at_) 0 at_
        rw [Nat.add_zero] at hsh
        rw [if_neg hm0, pick_both m d hm0 hm64 xs _ at_ (by omega) (by omega), hsh]
        cases hp : pick (2 ^ m) d (xs.drop at_) 0 with
        | none => exact ⟨0, at_, 8, rfl, by rw [limbs_zero]; rfl, by decide⟩
        | some r =>
          obtain ⟨x, j⟩ := r
          have hx := pick_lt _ _ _ _ _ _ hp
          exact ⟨x, ((at_ + j : Nat) : Int), 0, rfl, rfl, by omega⟩
    · refine ⟨0, a, 1, ?_, by rw [limbs_zero]; exact ref_out K d hd0 hnl l a ha (by omega), by decide⟩
      unfold draw_Below.f
      rw [if_neg (by omega), right_no l a ha, Option.bind_some, if_neg (by decide)]; rfl
theorem told_ok (l : List Int) (a : Int) (o : Option (Nat × Nat)) (ho : ∀ r, o = some r → (limbs r.1).length ≤ 64) : ∃ (rs : List Nat) (p e : Int), told l l a o = (I rs, l, p, e) ∧ rs.length ≤ 64 := by
  cases o with
  | none => exact ⟨[], a, 8, rfl, by simp⟩
  | some r => exact ⟨limbs r.1, r.2, 0, rfl, ho r rfl⟩
theorem pickN_lt (many n : Nat) (xs : List Nat) : ∀ (f i : Nat) (r : Nat × Nat), pickN many n xs f i = some r → r.1 < n := by
  intro f
  induction f with
  | zero => intro i r h; cases h
  | succ f ih =>
    intro i r h
    rw [pickN] at h
    split at h
    · cases h
    · split at h
      · rename_i hlt; cases h; exact hlt
      · exact ih _ _ h
theorem partB (K : Nat) (bs : List Nat) (hb : Dig 4294967296 bs) (hbl : bs.length ≤ 70) (l : List Int) (xs : List Nat) (h : Words l xs) (hl : xs.length ≤ 60) (a : Int) (hK : 20000 ≤ K) :
    ∃ (rs : List Nat) (p e : Int), draw_BelowNat.f K l a (I bs) = some (I rs, l, p, e) ∧ samphireref07_Below.f K l a (I bs) = some (I rs, l, p, e) ∧ rs.length ≤ 64 := by
  have hlen := h.length
  cases hR : nat_Right.f (I bs) with
  | none => rw [NatT.right _ (by omega)] at hR; cases hR
  | some b =>
    cases b with
    | false =>
      refine ⟨[], a, 1, ?_, ?_, by simp⟩
      · unfold draw_BelowNat.f
        rw [hR, Option.bind_some, if_neg (by decide)]; rfl
      · unfold samphireref07_Below.f
        rw [rright _ (by omega), hR, Option.bind_some, if_neg (by decide)]; rfl
    | true =>
      obtain ⟨hbv, hb64⟩ := NatT.right_big bs (by omega) hR hb
      generalize val 4294967296 bs = n at hbv
      subst hbv
      rcases Nat.eq_zero_or_pos n with rfl | hn0
      · refine ⟨[], a, 7, ?_, ?_, by simp⟩
        · unfold draw_BelowNat.f
          rw [hR, Option.bind_some, if_pos rfl, limbs_zero]; rfl
        · unfold samphireref07_Below.f
          rw [limbs_zero]; rfl
      · have hne := Limb.limbs_ne_nil n (by omega)
        by_cases ha : 0 ≤ a ∧ a ≤ (l.length : Int)
        · obtain ⟨at_, rfl⟩ : ∃ n : Nat, a = n := ⟨a.toNat, by omega⟩
          have hB := belowN n (blen (n - 1)) hn0 hb64 rfl l xs h (by omega) at_ (by omega) K (by omega)
          have hN := rbelow n hn0 hb64 l xs h hl at_ (by omega) K hK
          obtain ⟨rs, p, e, ht, hr⟩ := told_ok l (at_ : Int) (pickN (blen (n - 1)) n xs (xs.length + 1) at_) (fun r hr => by
            have h1 := pickN_lt _ _ _ _ _ _ hr
            have h2 := (limbs_len n 64).1 hb64
            exact (limbs_len r.1 64).2 (by omega))
          rw [ht] at hB hN
          exact ⟨rs, p, e, hB, hN, hr⟩
        · refine ⟨[], a, 1, ?_, ref_out K n hn0 hb64 l a ha (by omega), by simp⟩
          unfold draw_BelowNat.f
          rw [hR, Option.bind_some, if_pos rfl, if_neg (by rw [I_length]; omega), right_no l a ha, Option.bind_some, if_neg (by decide)]; rfl
theorem DrawTells : samphirelaw07_DrawTells.Pure := by
  intro l0 a1 a2 l3 hm0 hs0 w0 w1 w2 hm3 hs3 w3
  obtain ⟨xs, hw⟩ := words_of l0 w0
  have hlen := hw.length
  refine ⟨20003, ?_⟩
  have hj : ∀ b, b = true → samphirelaw07_DrawTells.j0 20003 l0 a1 a2 l3 b = some true := fun b hb => by
    rw [hb, show (20003 : Nat) = 20002 + 1 from rfl, samphirelaw07_DrawTells.j0, if_pos rfl, awakeT 20002 (by omega)]; rfl
  unfold samphirelaw07_DrawTells.f
  by_cases h60 : (l0.length : Int) > 60
  · rw [if_pos h60]; exact hj _ rfl
  · rw [if_neg h60]
    by_cases h70 : (l3.length : Int) > 70
    · exact hj _ (decide_eq_true h70)
    · have h2' : 0 ≤ a2 ∧ a2 < 18446744073709551616 := by simp [Lit.wf, IntKind.min, IntKind.max, IntKind.signed, IntKind.bits] at w2; omega
      have h1' : -9223372036854775808 ≤ a1 ∧ a1 ≤ 9223372036854775807 := by simp [Lit.wf, IntKind.min, IntKind.max, IntKind.signed, IntKind.bits] at w1; omega
      obtain ⟨d, rfl⟩ : ∃ a : Nat, a2 = (a : Int) := ⟨a2.toNat, by omega⟩
      obtain ⟨bs, rfl, hb⟩ := Limb.of_wf (k := .u32) (b := 4294967296) ⟨rfl, rfl⟩ l3 w3
      rw [I_length] at h70
      rw [I_length, decide_eq_false h70, show (20003 : Nat) = 20002 + 1 from rfl, samphirelaw07_DrawTells.j0, if_neg (by decide)]
      obtain ⟨v, p, e, A1, A2, hv⟩ := partA 20002 d (by omega) l0 xs hw (by omega) a1 (by omega)
      obtain ⟨rs, q, f, B1, B2, hrs⟩ := partB 20001 bs hb (by omega) l0 xs hw (by omega) a1 (by omega)
      have hsame := same rs (by omega) 20000 (by omega)
      have he : (e != e) = false := by simp
      rw [A1, Option.bind_some, refOf d (by omega) 20002 (by omega), Option.bind_some, A2, Option.bind_some]
      dsimp only
      rw [rnumber v hv 20002 (by omega), Option.bind_some, if_pos rfl, if_pos rfl, he, show (20002 : Nat) = 20001 + 1 from rfl, samphirelaw07_DrawTells.j1, if_neg (by decide), B1, Option.bind_some, B2, Option.bind_some]
      dsimp only
      have hleft : ∀ x91, x91 = decide (0 ≤ a1 ∧ a1 ≤ (l0.length : Int)) → samphirelaw07_DrawTells.j2 20001 l0 a1 (I rs) f (I rs) f 0 x91 l0 a1 l0 q l0 q = some true := fun x91 hx => by
        rw [show (20001 : Nat) = 20000 + 1 from rfl, samphirelaw07_DrawTells.j2]
        by_cases ha : 0 ≤ a1 ∧ a1 ≤ (l0.length : Int)
        · rw [decide_eq_true ha] at hx
          have hL : draw_Left.f l0 a1 = some (wrap64 ((l0.length : Int) - a1)) := by
            unfold draw_Left.f
            rw [right_yes l0 a1 ha, Option.bind_some, if_pos rfl]
          rw [hx, if_pos rfl, hsame, Option.bind_some, if_pos rfl, if_pos rfl, if_pos rfl, hL, Option.bind_some, if_pos rfl, awakeT 20000 (by omega)]; rfl
        · rw [decide_eq_false ha] at hx
          have hL : draw_Left.f l0 a1 = some 0 := by
            unfold draw_Left.f
            rw [right_no l0 a1 ha, Option.bind_some, if_neg (by decide)]
          rw [hx, if_neg (by decide), hsame, Option.bind_some, if_pos rfl, if_pos rfl, if_pos rfl, hL, Option.bind_some, if_pos rfl, awakeT 20000 (by omega)]; rfl
      by_cases ha0 : a1 ≥ 0
      · rw [if_pos ha0]; exact hleft _ (by simp; omega)
      · rw [if_neg ha0]; exact hleft _ (by simp; omega)
end Go.Proofs.Ytpgfadljcmakfaa.Pure
