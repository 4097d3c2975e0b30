/- The law FrameBack over plain functions: what is sealed is opened, as it was; what is opened would be sealed so. -/
import Derived.Test.YtjmcdnhbiamokaaQx5
import Derived.Test.YtjmcdnhbiamokaaPureG
namespace Go.Proofs.Ytjmcdnhbiamokaa.Pure
open Go.RowKit Go.Proofs.Ytjmcdnhbiamokaa.Q Go.Proofs.YtjmcdnhbiamokaaW.PrintWords Go.Proofs.YtjmcdnhbiamokaaW.PrintLast
set_option linter.unusedVariables false
set_option linter.unusedSimpArgs false
theorem FrameBack : samphirelaw09_FrameBack.Pure := by
  intro a0 a1 a2 h0 h1 h2
  refine ⟨14, ?_⟩
  obtain ⟨j, rfl, hj, ej, tj⟩ := kind_w a0 h0
  have hj : ∀ b, b = true → samphirelaw09_FrameBack.j0 14 (j : Int) a1 a2 b = some true := fun b hb => by
    rw [hb, show (14 : Nat) = 13 + 1 from rfl, samphirelaw09_FrameBack.j0, if_pos rfl, awake_f 1]; rfl
  unfold samphirelaw09_FrameBack.f
  by_cases hs : (a1.size : Int) > 600
  · rw [if_pos hs]; exact hj _ rfl
  · rw [if_neg hs]
    by_cases hs2 : (a2.size : Int) > 600
    · exact hj _ (decide_eq_true hs2)
    · obtain ⟨t, ht, ht2⟩ := seal_f 2 (1 + j % 8) a1 (by omega) (by omega) (by omega)
      obtain ⟨hz1, hz2⟩ := frame_size (by omega) ht2
      have ho := open_frame (s := t) (by omega) (by omega) (by omega) (by omega) ht2
      have hb : (a1.toList != a1.toList) = false := by simp
      rw [decide_eq_false hs2, show (14 : Nat) = 13 + 1 from rfl, samphirelaw09_FrameBack.j0, if_neg (by decide), ej, ht, Option.bind_some]
      dsimp only
      rw [ho, Option.bind_some]
      dsimp only
      rw [if_pos rfl, if_pos rfl, if_pos rfl, hb, show (13 : Nat) = 12 + 1 from rfl, samphirelaw09_FrameBack.j1, if_neg (by decide), open_f (by omega)]
      by_cases hF : ∃ k p u, Form a2.data.toList k p u
      · obtain ⟨k, p, u, F⟩ := hF
        rw [open_form (by omega) F]
        by_cases hu : u = sum4 (head k p)
        · rw [if_pos hu, Option.bind_some]
          dsimp only
          obtain ⟨v, hv, hv2⟩ := seal_f 1 k p F.kind1 F.kind8 F.size
          have hva : v = a2 := ba_ext (by rw [hv2, F.list, hu]; rfl)
          rw [if_pos rfl, hv, Option.bind_some]
          dsimp only
          rw [if_pos rfl, if_pos (by rw [hva]), awake_f 0]; rfl
        · rw [if_neg hu, Option.bind_some]
          dsimp only
          rw [if_neg (by decide), if_pos rfl, if_pos (by rw [ByteArray.toList_eq]), awake_f 0]; rfl
      · rw [open_no (fun k p u F => hF ⟨k, p, u, F⟩), Option.bind_some]
        dsimp only
        rw [if_neg (by decide), if_pos rfl, if_pos (by rw [ByteArray.toList_eq]), awake_f 0]; rfl
end Go.Proofs.Ytjmcdnhbiamokaa.Pure
