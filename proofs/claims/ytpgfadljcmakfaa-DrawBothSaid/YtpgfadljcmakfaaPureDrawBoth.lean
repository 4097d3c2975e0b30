/- DrawBoth, over numbers and lists: what is drawn below a number is the same as below that natural. -/
import Derived.Test.YtpgfadljcmakfaaQx8
import Derived.Test.YtpgfadljcmakfaaBelowN
namespace Go.Proofs.Ytpgfadljcmakfaa.Pure
open Go.RowKit Go.Proofs.Ytpgfadljcmakfaa.Q Go.Proofs.YtpgfadljcmakfaaW.PrintWords Go.Proofs.YtpgfadljcmakfaaW.PrintLast Go.Proofs.Ytpgfadljcmakfaa.Draw
open Go.Proofs.Ytpgfadljcmakfaa.Limb (I I_length limbs limbs_zero val)

theorem pick_both (m d : Nat) (h0 : m ≠ 0) (hm : m ≤ 64) (xs : List Nat) (f : Nat) : ∀ i, i ≤ xs.length → xs.length - i < f → pickN m d xs f i = pick (2 ^ m) d (xs.drop i) i := by
  induction f with
  | zero => intro i _ h; omega
  | succ f ih =>
    intro i hi hf
    rw [pickN, show (m + 63) / 64 = 1 by omega]
    by_cases hc : xs.length - i < 1
    · rw [if_pos hc, List.drop_of_length_le (by omega), pick]
    · rw [if_neg hc, Nat.drop_getD xs i (by omega), pick, show (xs.getD i 0 :: xs.drop (i + 1)).take 1 = [xs.getD i 0] from rfl, val, val, Nat.mul_zero, Nat.add_zero, ih (i + 1) (by omega) (by omega)]

theorem DrawBoth : samphirelaw07_DrawBoth.Pure := by
  intro l0 a1 hl hs h0 h1
  obtain ⟨xs, hw⟩ := words_of l0 h0
  have hlen := hw.length
  refine ⟨30 + 970, ?_⟩
  have haw : samphirelaw07_awake.f (30 + 970) = some true := awake 970
  unfold samphirelaw07_DrawBoth.f
  by_cases h60 : (l0.length : Int) > 60
  · rw [if_pos h60]; exact bnd haw rfl
  rw [if_neg h60]
  have h1' : 0 ≤ a1 ∧ a1 < 18446744073709551616 := by simp [Lit.wf, IntKind.min, IntKind.max, IntKind.signed, IntKind.bits] at h1; omega
  obtain ⟨d, rfl⟩ : ∃ a : Nat, a1 = (a : Int) := ⟨a1.toNat, by omega⟩
  have hd : d < 18446744073709551616 := by omega
  by_cases hd0 : d = 0
  · subst hd0
    refine bnd (x := ((0 : Int), l0, (0 : Int), (7 : Int))) (by unfold draw_Below.f; exact if_pos (show ((0 : Nat) : Int) = 0 from rfl)) ?_
    have hof := refOf 0 (by decide) (30 + 970) (by decide)
    rw [limbs_zero] at hof
    refine bnd hof ?_
    refine bnd (x := (([] : List Int), l0, (0 : Int), (7 : Int))) ?_ ?_
    · unfold draw_BelowNat.f
      refine bnd (x := true) rfl (ift rfl (ift rfl rfl))
    · refine ift rfl (bnd hof (bnd (same [] (by decide) (30 + 970) (by decide)) (ift rfl (ift rfl (iff_ (show ¬ ((7 : Int) = 0) by decide) (ift rfl (bnd haw rfl)))))))
  · have hm64 : blen (d - 1) ≤ 64 := blen_le _ 64 (by omega)
    have e0 : Lib.bitLen (d - 1) = blen (d - 1) := bitLen_blen (d - 1) (by omega)
    have hnl : (limbs d).length ≤ 64 := (Limb.limbs_len d 64).2 (Nat.lt_of_lt_of_le hd (Nat.le_trans (by decide : 18446744073709551616 ≤ 4294967296 ^ 2) (Nat.pow_le_pow_right (by decide) (by decide))))
    have hB := below d (blen (d - 1)) (by omega) hd e0 hm64 hw 0 (Nat.zero_le _) (by omega) (30 + 970) (by omega)
    have hN := belowN d (blen (d - 1)) (by omega) hnl rfl l0 xs hw (by omega) 0 (Nat.zero_le _) (30 + 970) (by omega)
    have hlt := blen_lt (d - 1)
    generalize blen (d - 1) = m at hB hN hm64 hlt
    refine bnd hB (bnd (refOf d hd _ (by decide)) (bnd hN ?_))
    have hsame (v : Nat) (hv : v < 18446744073709551616) : samphireref02_Same.f (30 + 970) (I (limbs v)) (I (limbs v)) = some true := by
      have : (limbs v).length ≤ 2 := (Limb.limbs_len v 2).2 (by omega)
      exact same _ (by omega) _ (by omega)
    by_cases hm0 : m = 0
    · subst hm0
      rw [if_pos rfl]
      have hd1 : d = 1 := by rw [Nat.pow_zero] at hlt; omega
      have ep : pickN 0 d xs (xs.length + 1) 0 = some (0, 0) := by
        rw [pickN, if_neg (by omega), Nat.pow_zero, Nat.mod_one, if_pos (by omega)]
      rw [ep]
      refine ift rfl (bnd (refOf 0 (by decide) _ (by decide)) (bnd (hsame 0 (by decide)) (ift rfl (ift rfl (ift rfl (bnd haw rfl))))))
    · rw [if_neg hm0, pick_both m d hm0 hm64 xs _ 0 (Nat.zero_le _) (by omega), List.drop_zero]
      rcases hp : pick (2 ^ m) d xs 0 with _ | ⟨x, j⟩
      · refine ift rfl (bnd (refOf 0 (by decide) _ (by decide)) (bnd (x := true) ?_ (ift rfl (ift rfl (iff_ (show ¬ ((8 : Int) = 0) by decide) (ift rfl (bnd haw rfl)))))))
        have := hsame 0 (by decide); rw [limbs_zero] at this ⊢; exact this
      · have hx : x < d := by
          have : ∀ (ys : List Nat) (i : Nat), pick (2 ^ m) d ys i = some (x, j) → x < d := by
            intro ys
            induction ys with
            | nil => intro i h; cases h
            | cons y ys ih =>
              intro i h
              rw [pick] at h
              split at h
              · rename_i hlt2; cases h; exact hlt2
              · exact ih _ h
          exact this xs 0 hp
        refine ift rfl (bnd (refOf x (by omega) _ (by decide)) (bnd (hsame x (by omega)) (ift rfl (ift ?_ (ift rfl (bnd haw rfl))))))
        show ((0 + j : Nat) : Int) = (j : Int)
        rw [Nat.zero_add]
end Go.Proofs.Ytpgfadljcmakfaa.Pure
