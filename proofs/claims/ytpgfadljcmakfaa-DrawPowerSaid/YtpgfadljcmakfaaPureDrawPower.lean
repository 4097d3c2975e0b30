/- DrawPower, over numbers and lists: below a power of 2 the number is what the first word's lowest bits are. -/
import Derived.Test.YtpgfadljcmakfaaDraw
namespace Go.Proofs.Ytpgfadljcmakfaa.Pure
open Go.RowKit Go.Proofs.Ytpgfadljcmakfaa.Q Go.Proofs.YtpgfadljcmakfaaW.PrintWords Go.Proofs.YtpgfadljcmakfaaW.PrintLast Go.Proofs.Ytpgfadljcmakfaa.Draw

theorem DrawPower : samphirelaw07_DrawPower.Pure := by
  intro l0 a1 hl hs h0 h1
  obtain ⟨xs, hw⟩ := words_of l0 h0
  have hlen := hw.length
  refine ⟨30 + 50, ?_⟩
  have haw : samphirelaw07_awake.f (30 + 50) = some true := awake 50
  unfold samphirelaw07_DrawPower.f
  by_cases h40 : (l0.length : Int) > 40
  · rw [if_pos h40]; exact bnd haw rfl
  rw [if_neg h40]
  have h1' : 0 ≤ a1 ∧ a1 < 256 := by simp [Lit.wf, IntKind.min, IntKind.max, IntKind.signed, IntKind.bits] at h1; omega
  obtain ⟨a, rfl⟩ : ∃ a : Nat, a1 = (a : Int) := ⟨a1.toNat, by omega⟩
  have ha : ∀ a : Fin 256, Int.tmod (wrap64 (a.val : Int)) 64 = ((a.val % 64 : Nat) : Int) ∧ shl .u64 1 ((a.val % 64 : Nat) : Int) = ((2 ^ (a.val % 64) : Nat) : Int) ∧ Lib.bitLen (2 ^ (a.val % 64) - 1) = a.val % 64 ∧ 2 ^ (a.val % 64) < 18446744073709551616 := by decide +kernel
  obtain ⟨e1, e2, e3, e4⟩ := ha ⟨a, by omega⟩
  simp only at e1 e2 e3 e4
  rw [e1]
  have hm : a % 64 < 64 := Nat.mod_lt _ (by decide)
  generalize a % 64 = m at e2 e3 e4 hm
  have hb := below (2 ^ m) m (Nat.two_pow_pos m) e4 e3 (by omega) hw 0 (Nat.zero_le _) (by omega) 80 (by omega)
  rw [e2]
  refine ift (by omega) ?_
  refine bnd hb ?_
  by_cases h0 : m = 0
  · subst h0
    rw [if_pos rfl, if_pos rfl]
    refine ift rfl (ift rfl (ift rfl ?_))
    exact bnd haw rfl
  · rw [if_neg h0, if_neg (by omega)]
    rw [List.drop_zero]
    rcases xs with _ | ⟨x, xs⟩
    · rw [if_pos (by rw [hlen]; rfl)]
      refine ift rfl ?_
      exact bnd haw rfl
    · have hlen2 : (x :: xs).length = xs.length + 1 := rfl
      refine iff_ (by omega) (ift (by omega) ?_)
      have hx : rd l0 0 = (x : Int) := hw.rd 0
      have hxl := hw.2 x (List.mem_cons_self ..)
      rw [hx, ← e2, masked x hxl m (by omega)]
      rw [pick, if_pos (Nat.mod_lt _ (Nat.two_pow_pos m))]
      refine ift rfl (ift rfl (ift rfl ?_))
      exact bnd haw rfl
end Go.Proofs.Ytpgfadljcmakfaa.Pure
