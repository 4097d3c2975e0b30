/- The law FrameApart over plain functions: frames are alike just if their kinds and payloads are. -/
import Derived.Test.YtjmcdnhbiamokaaQx5
import Derived.Test.YtjmcdnhbiamokaaPureG
namespace Go.Proofs.Ytjmcdnhbiamokaa.Pure
open Go.RowKit Go.Proofs.Ytjmcdnhbiamokaa.Q Go.Proofs.YtjmcdnhbiamokaaW.PrintWords Go.Proofs.YtjmcdnhbiamokaaW.PrintLast
set_option linter.unusedVariables false
set_option linter.unusedSimpArgs false
theorem FrameApart : samphirelaw09_FrameApart.Pure := by
  intro a0 a1 a2 a3 h0 h1 h2 h3
  refine ⟨13, ?_⟩
  obtain ⟨j, rfl, hj, ej, tj⟩ := kind_w a0 h0
  obtain ⟨k, rfl, hk, ek, tk⟩ := kind_w a1 h1
  have hj : ∀ b, b = true → samphirelaw09_FrameApart.j0 13 (j : Int) (k : Int) a2 a3 b = some true := fun b hb => by
    rw [hb, show (13 : Nat) = 12 + 1 from rfl, samphirelaw09_FrameApart.j0, if_pos rfl, awake_f 0]; rfl
  unfold samphirelaw09_FrameApart.f
  by_cases hs : (a2.size : Int) > 300
  · rw [if_pos hs]; exact hj _ rfl
  · rw [if_neg hs]
    by_cases hs2 : (a3.size : Int) > 300
    · exact hj _ (decide_eq_true hs2)
    · obtain ⟨t, ht, ht2⟩ := seal_f 1 (1 + j % 8) a2 (by omega) (by omega) (by omega)
      obtain ⟨u, hu, hu2⟩ := seal_f 1 (1 + k % 8) a3 (by omega) (by omega) (by omega)
      have hi := frame_inj (by omega) (by omega) (by omega) (by omega) (by omega) (by omega) ht2 hu2
      rw [decide_eq_false hs2, show (13 : Nat) = 12 + 1 from rfl, samphirelaw09_FrameApart.j0, if_neg (by decide), ej, ek, ht, Option.bind_some, hu, Option.bind_some]
      dsimp only
      rw [if_pos rfl, if_pos rfl, tj, tk]
      by_cases hc : j % 8 = k % 8
      · rw [if_pos (by rw [hc]), if_pos (by rw [beq_list, beq_list]; simp only [beq_iff_eq, decide_eq_decide]; rw [hi]; exact ⟨fun h => h.2, fun h => ⟨by omega, h⟩⟩), awake_f 0]; rfl
      · rw [if_neg (by omega), if_pos (by rw [beq_list]; simp only [beq_iff_eq, decide_eq_false_iff_not]; rw [hi]; rintro ⟨h, _⟩; omega), awake_f 0]; rfl
end Go.Proofs.Ytjmcdnhbiamokaa.Pure
