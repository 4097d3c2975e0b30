/- The law FrameSize over plain functions: a frame has ten bytes, and those of its payload as a text, and nothing of what is no kind. -/
import Derived.Test.YtjmcdnhbiamokaaQx6
import Derived.Test.YtjmcdnhbiamokaaPureR
namespace Go.Proofs.Ytjmcdnhbiamokaa.Pure
open Go.RowKit Go.Proofs.Ytjmcdnhbiamokaa.Q Go.Proofs.YtjmcdnhbiamokaaW.PrintWords Go.Proofs.YtjmcdnhbiamokaaW.PrintLast
set_option linter.unusedVariables false
theorem FrameSize : samphirelaw09_FrameSize.Pure := by
  intro a0 a1 h0 h1
  refine ⟨13, ?_⟩
  unfold samphirelaw09_FrameSize.f
  by_cases hs : (a1.size : Int) > 300
  · rw [if_pos hs, awake_f 1]; rfl
  · rw [if_neg hs]
    by_cases ha : a0 < 1 ∨ a0 > 8
    · rw [show (13 : Nat) = 2 + 11 from rfl, seal_arg 2 a0 a1 ha, Option.bind_some]
      have hj : samphirelaw09_FrameSize.j0 (2 + 11) a0 a1 ⟨#[]⟩ 1 true = some true := by
        rw [show 2 + 11 = 12 + 1 from rfl, samphirelaw09_FrameSize.j0, if_pos rfl, if_pos (by rw [ByteArray.toList_eq]), if_pos rfl, awake_f 0]; rfl
      rcases ha with ha | ha
      · rw [if_pos ha]; exact hj
      · rw [if_neg (by omega), decide_eq_true ha]; exact hj
    · obtain ⟨k, rfl⟩ : ∃ k : Nat, a0 = k := ⟨a0.toNat, by omega⟩
      obtain ⟨t, ht, ht2⟩ := seal_f 2 k a1 (by omega) (by omega) (by omega)
      obtain ⟨u, hu, hu2⟩ := refnum_f 2 a1.size (by omega)
      rw [show (13 : Nat) = 2 + 11 from rfl, ht, Option.bind_some, if_neg (by omega), decide_eq_false (by omega)]
      have hul : u.size = (vi a1.size).length := by rw [size_list, hu2]
      have hul2 := vi_len a1.size 9 (Nat.lt_of_lt_of_le (show a1.size < 301 by omega) (by decide))
      have htl : t.size = 10 + u.size + a1.size := by
        rw [size_list, ht2, hul]; simp [frameL, head, sum4_len]; omega
      have hb : bt t 5 = ((k : Int)) % 256 := by
        have h5 : t.data.toList.drop 5 = UInt8.ofNat k :: ((vi a1.size ++ a1.data.toList) ++ sum4 (head k a1)) := by rw [ht2]; rfl
        obtain ⟨hlt, hc, _⟩ := at_drop h5
        rw [← bt_at t 5 hlt]
        show ((t[5].toNat : Nat) : Int) = _
        rw [hc, u8_nat (by omega)]; omega
      rw [show 2 + 11 = 12 + 1 from rfl, samphirelaw09_FrameSize.j0, if_neg (by decide), if_pos rfl, wraps_u64 _ (by omega) (by omega), hu, Option.bind_some]
      dsimp only
      rw [if_pos (by rw [htl]; unfold wrap64; simp; omega), if_pos (by omega), if_pos hb, awake_f 0]
      rfl
end Go.Proofs.Ytjmcdnhbiamokaa.Pure
