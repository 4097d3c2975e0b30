/- DrawBig, over numbers and lists: with a bound of 2^128 the number is both words; as many words are taken, each time, as its bits take. -/
import Derived.Test.YtpgfadljcmakfaaBx7
import Derived.Test.YtpgfadljcmakfaaAddB
namespace Go.Proofs.Ytpgfadljcmakfaa.Pure
open Go.RowKit Go.Proofs.Ytpgfadljcmakfaa.Q Go.Proofs.Ytpgfadljcmakfaa.B Go.Proofs.YtpgfadljcmakfaaW.PrintWords Go.Proofs.YtpgfadljcmakfaaW.PrintLast Go.Proofs.Ytpgfadljcmakfaa.DrawB
open Go.Proofs.Ytpgfadljcmakfaa.Limb (I I_length limbs limbs_zero val limbs_len)
set_option exponentiation.threshold 4096
theorem awakeB (K : Nat) (h : 30 ≤ K) : samphirelaw07_awake.f K = some true := by
  have := awake (K - 30)
  rwa [show 30 + (K - 30) = K by omega] at this
theorem limbs128 : I (limbs (2 ^ 128)) = [0, 0, 0, 0, 1] := by
  have h : limbs (2 ^ 128) = [0, 0, 0, 0, 1] := by
    rw [show (2 : Nat) ^ 128 = Limb.val 4294967296 [0, 0, 0, 0, 1] by decide +kernel]
    exact Limb.limbs_val _ (by intro x hx; simp at hx; omega) (by decide)
  rw [h]; rfl
theorem blen128 : blen (2 ^ 128 - 1) = 128 := by
  rw [blen_eq (2 ^ 128 - 1) 127 (by decide +kernel) (by decide +kernel)]
theorem DrawBig : samphirelaw07_DrawBig.Pure := by
  intro l0 hmax hs h0
  obtain ⟨xs, hw⟩ := words_of l0 h0
  have hlen := hw.length
  refine ⟨5000, ?_⟩
  have haw := awakeB 5000 (by omega)
  unfold samphirelaw07_DrawBig.f
  by_cases h40 : (l0.length : Int) > 40
  · rw [if_pos h40, haw]; rfl
  · have hb := belowN (2 ^ 128) 128 (by decide +kernel) (by rw [← I_length, limbs128]; decide) blen128 l0 xs hw (by omega) 0 (Nat.zero_le _) 5000 (by omega)
    rw [limbs128, pickN, Nat.sub_zero, show (128 + 63) / 64 = 2 from rfl, List.drop_zero] at hb
    rw [if_neg h40]
    by_cases h2 : (l0.length : Int) < 2
    · rw [if_pos (by omega)] at hb
      have hb' : draw_BelowNat.f 5000 l0 0 [0, 0, 0, 0, 1] = some ([], l0, 0, 8) := hb
      rw [hb', Option.bind_some]
      dsimp only
      rw [if_pos h2, if_pos rfl, if_pos rfl, haw]; rfl
    · obtain ⟨x, y, t, rfl⟩ : ∃ x y t, xs = x :: y :: t := by
        rcases xs with _ | ⟨x, _ | ⟨y, t⟩⟩
        · have : l0.length = 0 := hlen
          omega
        · have : l0.length = 1 := hlen
          omega
        · exact ⟨x, y, t, rfl⟩
      have hx := hw.2 x (by simp)
      have hy := hw.2 y (by simp)
      have hv : val 18446744073709551616 ((x :: y :: t).take 2) = x + 18446744073709551616 * y := by simp [val]
      have hlt : x + 18446744073709551616 * y < 2 ^ 128 := by
        rw [show (2 : Nat) ^ 128 = 340282366920938463463374607431768211456 by decide +kernel]; omega
      rw [if_neg (show ¬ (x :: y :: t).length < 2 by simp), hv, Nat.mod_eq_of_lt hlt, if_pos hlt] at hb
      have hb' : draw_BelowNat.f 5000 l0 0 [0, 0, 0, 0, 1] = some (I (limbs (x + 18446744073709551616 * y)), l0, 2, 0) := hb
      have r0 : rd l0 0 = (x : Int) := hw.rd 0
      have r1 : rd l0 1 = (y : Int) := hw.rd 1
      have ly : (limbs (18446744073709551616 * y)).length ≤ 64 := (limbs_len _ 64).2 (Nat.lt_of_lt_of_le (show 18446744073709551616 * y < 4294967296 ^ 4 by rw [show (4294967296 : Nat) ^ 4 = 340282366920938463463374607431768211456 by decide]; omega) (by decide +kernel))
      have lx : (limbs x).length ≤ 64 := (limbs_len _ 64).2 (Nat.lt_of_lt_of_le hx (by decide +kernel))
      have hm := mul_two64 y hy 5000 (by omega)
      have hm' : samphireref02_Mul.f 5000 (I (limbs y)) [0, 0, 1] = some (I (limbs (18446744073709551616 * y))) := hm
      have hsame := same (limbs (x + 18446744073709551616 * y)) (by
        have : (limbs (x + 18446744073709551616 * y)).length ≤ 4 := (limbs_len _ 4).2 (by rw [show (4294967296 : Nat) ^ 4 = 340282366920938463463374607431768211456 by decide]; omega)
        omega) 5000 (by
        have : (limbs (x + 18446744073709551616 * y)).length ≤ 4 := (limbs_len _ 4).2 (by rw [show (4294967296 : Nat) ^ 4 = 340282366920938463463374607431768211456 by decide]; omega)
        omega)
      rw [hb', Option.bind_some]
      dsimp only
      rw [if_neg h2, if_pos (by omega), r0, refOf x hx 5000 (by omega), Option.bind_some, if_pos (by omega), r1, refOf y hy 5000 (by omega), Option.bind_some, hm', Option.bind_some, add_ x _ lx ly 5000 (by omega), Option.bind_some, hsame, Option.bind_some, if_pos rfl, if_pos rfl, if_pos rfl, haw]
      rfl
end Go.Proofs.Ytpgfadljcmakfaa.Pure
