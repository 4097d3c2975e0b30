/- CrcGoes, over numbers and lists: the sum of two texts, one behind the other, is that of the second one behind the first one's; for all texts, where longer ones than 300 bytes get the fixed answer. -/
import Derived.Test.YtfkkfbaehokilaaQx1
namespace Go.Proofs.Ytfkkfbaehokilaa.Pure
open Go.RowKit Go.Proofs.Ytfkkfbaehokilaa.Q Go.Proofs.YtfkkfbaehokilaaW.PrintWords Go.Proofs.YtfkkfbaehokilaaW.PrintLast

theorem bs_append (a b : ByteArray) : bs (a ++ b) = bs a ++ bs b := by simp [bs]

theorem bnd {α β : Type} {o : Option α} {f : α → Option β} {x : α} {r : Option β} (h : o = some x) (h2 : f x = r) : o.bind f = r := by subst h; exact h2
theorem ift {α : Type} {c : Prop} {d : Decidable c} {x y r : α} (h : c) (h2 : x = r) : (@ite α c d x y) = r := by rw [if_pos h]; exact h2
theorem iff_ {α : Type} {c : Prop} {d : Decidable c} {x y r : α} (h : ¬ c) (h2 : y = r) : (@ite α c d x y) = r := by rw [if_neg h]; exact h2

theorem sum_some (a : ByteArray) (n : Nat) (h : CrcPure.more 0 (bs a) = n) (ha : a.size ≤ 140737488351232) : crc_Sum.f a = some (n : Int) := by
  subst h; unfold crc_Sum.f; rw [if_pos ha]
theorem more_some (s : Nat) (hs : s < 4294967296) (a : ByteArray) (n : Nat) (h : CrcPure.more s (bs a) = n) (ha : a.size ≤ 140737488351232) : crc_More.f s a = some (n : Int) := by
  subst h; unfold crc_More.f; rw [if_pos ⟨by omega, by omega, ha⟩, Int.toNat_natCast]

theorem CrcGoes : samphirelaw06_CrcGoes.Pure := by
  intro a b ha hb
  refine ⟨1, ?_⟩
  unfold samphirelaw06_CrcGoes.f
  have hj : samphirelaw06_CrcGoes.j0 1 a b true = some true := by simp [samphirelaw06_CrcGoes.j0, samphirelaw06_awake.f]
  split
  · exact hj
  · by_cases h : (b.size : Int) > 300
    · rw [decide_eq_true h]; exact hj
    · rw [decide_eq_false h]
      have hlt := CrcPure.more_lt 0 (bs a)
      have e4 : CrcPure.more (CrcPure.more 0 (bs a)) (bs b) = CrcPure.more 0 (bs (a ++ b)) := by
        rw [bs_append]; exact CrcPure.more_append (by omega) (bs_lt a)
      obtain ⟨m, hm⟩ : ∃ m, CrcPure.more 0 (bs a) = m := ⟨_, rfl⟩
      obtain ⟨n, hn⟩ : ∃ n, CrcPure.more 0 (bs (a ++ b)) = n := ⟨_, rfl⟩
      rw [hm, hn] at e4
      rw [hm] at hlt
      have e1 := sum_some a m hm ha
      have e2 := more_some m hlt b n e4 hb
      have e3 := sum_some (a ++ b) n hn (by rw [ByteArray.size_append]; omega)
      clear hm hn e4 hlt
      have hle : a.size + b.size ≤ 9223372036854775807 := by omega
      rw [samphirelaw06_CrcGoes.j0]
      refine iff_ (by decide) ?_
      refine bnd e1 ?_
      refine bnd e2 ?_
      refine ift hle ?_
      refine bnd e3 ?_
      refine ift rfl ?_
      rfl
end Go.Proofs.Ytfkkfbaehokilaa.Pure
