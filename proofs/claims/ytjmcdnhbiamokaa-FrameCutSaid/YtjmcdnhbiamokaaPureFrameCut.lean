/- The law FrameCut over plain functions: a frame that is cut off, or has bytes behind, is none. -/
import Derived.Test.YtjmcdnhbiamokaaQx5
import Derived.Test.YtjmcdnhbiamokaaPureG
namespace Go.Proofs.Ytjmcdnhbiamokaa.Pure
open Go.RowKit Go.Proofs.Ytjmcdnhbiamokaa.Q Go.Proofs.YtjmcdnhbiamokaaW.PrintWords Go.Proofs.YtjmcdnhbiamokaaW.PrintLast
set_option linter.unusedVariables false
set_option linter.unusedSimpArgs false
theorem FrameCut : samphirelaw09_FrameCut.Pure := by
  intro a0 a1 a2 a3 h0 h1 h2 h3
  refine ⟨14, ?_⟩
  obtain ⟨j, rfl, hj, ej, tj⟩ := kind_w a0 h0
  have h3' : 0 ≤ a3 ∧ a3 ≤ 65535 := by
    simp only [Lit.wf, Bool.and_eq_true, decide_eq_true_eq] at h3
    have e1 : IntKind.u16.min = 0 := rfl
    have e2 : IntKind.u16.max = 65535 := rfl
    omega
  have hj : ∀ b, b = true → samphirelaw09_FrameCut.j0 14 (j : Int) a1 a2 a3 b = some true := fun b hb => by
    rw [hb, show (14 : Nat) = 13 + 1 from rfl, samphirelaw09_FrameCut.j0, if_pos rfl, awake_f 1]; rfl
  unfold samphirelaw09_FrameCut.f
  by_cases hs : (a1.size : Int) > 300
  · rw [if_pos hs]; exact hj _ rfl
  · rw [if_neg hs]
    by_cases hs2 : (a2.size : Int) > 300
    · exact hj _ (decide_eq_true hs2)
    · obtain ⟨t, ht, ht2⟩ := seal_f 2 (1 + j % 8) a1 (by omega) (by omega) (by omega)
      obtain ⟨hz1, hz2⟩ := frame_size (by omega) ht2
      rw [decide_eq_false hs2, show (14 : Nat) = 13 + 1 from rfl, samphirelaw09_FrameCut.j0, if_neg (by decide), ej, ht, Option.bind_some]
      dsimp only
      rw [if_pos rfl, decide_eq_false (by omega), show (13 : Nat) = 12 + 1 from rfl, samphirelaw09_FrameCut.j1, if_neg (by decide), if_neg (by omega)]
      have hw : wrap64 a3 = a3 := by unfold wrap64; omega
      have hm : Int.tmod a3 (t.size : Int) = a3 % (t.size : Int) := Int.tmod_eq_emod_of_nonneg h3'.1
      have hm1 := Int.emod_nonneg a3 (show (t.size : Int) ≠ 0 by omega)
      have hm2 := Int.emod_lt_of_pos a3 (show 0 < (t.size : Int) by omega)
      rw [hw, hm]
      generalize a3 % (t.size : Int) = m at *
      have hc := open_no (cut_no (m := m.toNat) (by omega) (by omega) ht2 (by omega))
      rw [if_pos hm1, if_pos (by omega), open_f (by rw [ByteArray.size_extract]; omega), hc, Option.bind_some, if_pos (by omega), open_f (by rw [ByteArray.size_append]; omega)]
      by_cases hx : a2.data.toList = []
      · have hxe : t ++ a2 = t := ba_ext (by rw [app_list, hx, List.append_nil])
        have ho := open_frame (s := t) (by omega) (by omega) (by omega) (by omega) ht2
        rw [open_f (by omega)] at ho
        rw [hxe, ho, Option.bind_some]
        dsimp only
        rw [if_pos rfl, if_pos (by rw [ByteArray.toList_eq, hx]; rfl), awake_f 0]; rfl
      · rw [open_no (more_no (by omega) (by omega) ht2 hx), Option.bind_some]
        dsimp only
        rw [if_pos rfl, if_pos (by rw [ByteArray.toList_eq]; simpa using hx), awake_f 0]; rfl
end Go.Proofs.Ytjmcdnhbiamokaa.Pure
