/- DrawOn, over numbers and lists: draws go on where the one ahead ended; more words behind change nothing. -/
import Derived.Test.YtpgfadljcmakfaaDrawO
namespace Go.Proofs.Ytpgfadljcmakfaa.Pure
open Go.RowKit Go.Proofs.Ytpgfadljcmakfaa.Q Go.Proofs.Ytpgfadljcmakfaa.O Go.Proofs.YtpgfadljcmakfaaW.PrintWords Go.Proofs.YtpgfadljcmakfaaW.PrintLast Go.Proofs.Ytpgfadljcmakfaa.DrawO
set_option linter.unusedVariables false
theorem pick_some (M d : Nat) : ∀ (l : List Nat) (i x j : Nat) (r : List Nat), pick M d l i = some (x, j) → x < d ∧ i ≤ j ∧ j ≤ i + l.length ∧ pick M d (l ++ r) i = some (x, j) := by
  intro l
  induction l with
  | nil => intro i x j r h; cases h
  | cons y l ih =>
    intro i x j r h
    rw [pick] at h
    by_cases hc : y % M < d
    · rw [if_pos hc] at h
      simp only [Option.some.injEq, Prod.mk.injEq] at h
      obtain ⟨rfl, rfl⟩ := h
      refine ⟨hc, by omega, by rw [List.length_cons]; omega, ?_⟩
      rw [List.cons_append, pick, if_pos hc]
    · rw [if_neg hc] at h
      obtain ⟨h1, h2, h3, h4⟩ := ih (i + 1) x j r h
      refine ⟨h1, by omega, by rw [List.length_cons]; omega, ?_⟩
      rw [List.cons_append, pick, if_neg hc]; exact h4
theorem awakeK (K : Nat) (h : 30 ≤ K) : samphirelaw07_awake.f K = some true := by
  have := awake (K - 30)
  rwa [show 30 + (K - 30) = K by omega] at this
theorem below_zero (l : List Int) (a : Int) (k : Nat) : draw_Below.f k l a 0 = some (0, l, a, 7) := by unfold draw_Below.f; rw [if_pos rfl]
theorem Words.app {l m : List Int} {xs ys : List Nat} (h : Words l xs) (k : Words m ys) : Words (l ++ m) (xs ++ ys) :=
  ⟨by rw [h.1, k.1, List.map_append], fun x hx => (List.mem_append.1 hx).elim (h.2 x) (k.2 x)⟩
theorem bitLen_le (d : Nat) (h : d < 18446744073709551616) : Lib.bitLen d ≤ 64 := Lib.bitLen_le d 64 (Nat.le_refl _) h
theorem on_loop {l0 l1 l2 : List Int} {xs ys zs : List Nat} (h0 : Words l0 xs) (h1 : Words l1 ys) (h2 : Words l2 zs) (hl : xs.length + ys.length ≤ 60) (hz : zs.length ≤ 20) : ∀ (n i a K : Nat), i + n = zs.length → a ≤ xs.length → 100 + 2 * n ≤ K →
    samphirelaw07_DrawOn.l0 K l2 (l2.length : Int) (i : Int) l0 (a : Int) (l0 ++ l1) (a : Int) = some true := by
  intro n
  induction n with
  | zero =>
    intro i a K hi ha hK
    obtain ⟨K, rfl⟩ : ∃ j, K = j + 1 := ⟨K - 1, by omega⟩
    rw [samphirelaw07_DrawOn.l0, if_neg (by rw [h2.length]; omega), awakeK K (by omega)]
    rfl
  | succ n ih =>
    intro i a K hi ha hK
    obtain ⟨K, rfl⟩ : ∃ j, K = j + 2 := ⟨K - 2, by omega⟩
    have h01 := Words.app h0 h1
    have hd := h2.lt i
    have ew : wrap64 ((i : Int) + 1) = ((i + 1 : Nat) : Int) := wrap64_add1 i (by omega)
    have hlen := h2.length
    rw [samphirelaw07_DrawOn.l0, if_pos (by omega), if_pos (by omega), if_pos (by omega), h2.rd]
    generalize zs.getD i 0 = d at *
    have hgo : ∀ (x j : Nat), x < d → j ≤ xs.length → a ≤ j → samphirelaw07_DrawOn.j2 (K + 1) (d : Int) (x : Int) 0 l2 (l2.length : Int) (i : Int) false l0 (a : Int) l0 (j : Int) (l0 ++ l1) (j : Int) = some true := fun x j hx hj haj => by
      rw [samphirelaw07_DrawOn.j2, if_neg (by decide), if_pos rfl, if_neg (by omega), if_neg (by omega), ew]
      exact ih (i + 1) j K (by omega) hj (by omega)
    have hend : ∀ (x e : Int) (u : List Int) (p : Int) (v : List Int) (q : Int), e ≠ 0 → samphirelaw07_DrawOn.j2 (K + 1) (d : Int) x e l2 (l2.length : Int) (i : Int) false l0 (a : Int) u p v q = some true := fun x e u p v q he => by
      rw [samphirelaw07_DrawOn.j2, if_neg (by decide), if_neg he, awakeK K (by omega)]; rfl
    rcases Nat.eq_zero_or_pos d with rfl | hd0
    · rw [show ((0 : Nat) : Int) = 0 from rfl, below_zero, Option.bind_some, below_zero, Option.bind_some]
      dsimp only
      rw [if_neg (by decide), if_pos rfl]
      exact hend 0 7 _ _ _ _ (by decide)
    · have hm := bitLen_le (d - 1) (by omega)
      have b1 := below d (Lib.bitLen (d - 1)) hd0 hd rfl hm h0 a ha (by omega) (K + 1) (by omega)
      have b2 := below d (Lib.bitLen (d - 1)) hd0 hd rfl hm h01 a (by rw [List.length_append]; omega) (by rw [List.length_append]; omega) (K + 1) (by rw [List.length_append]; omega)
      generalize Lib.bitLen (d - 1) = m at *
      rw [b1, Option.bind_some, b2, Option.bind_some]
      by_cases h0m : m = 0
      · rw [if_pos h0m, if_pos h0m]
        dsimp only
        rw [if_pos rfl, if_pos rfl, if_pos rfl, if_pos rfl, if_neg (by decide)]
        exact hgo 0 a hd0 ha (Nat.le_refl _)
      · rw [if_neg h0m, if_neg h0m]
        have hdrop : (xs ++ ys).drop a = xs.drop a ++ ys := List.drop_append_of_le_length ha
        cases hp : pick (2 ^ m) d (xs.drop a) 0 with
        | none =>
          dsimp only
          rw [if_neg (by decide), if_neg (by decide)]
          exact hend 0 8 _ _ _ _ (by decide)
        | some r =>
          obtain ⟨x, j⟩ := r
          obtain ⟨hx, _, hj, hq⟩ := pick_some (2 ^ m) d (xs.drop a) 0 x j ys hp
          rw [List.length_drop] at hj
          rw [hdrop, hq]
          dsimp only
          rw [if_pos rfl, if_pos rfl, if_pos rfl, if_pos rfl, if_neg (by decide)]
          exact hgo x (a + j) hx (by omega) (by omega)
theorem DrawOn (l0 l1 l2 : List Int) (w0 : ∀ x ∈ l0, (Lit.int .u64 x).wf = true) (w1 : ∀ x ∈ l1, (Lit.int .u64 x).wf = true) (w2 : ∀ x ∈ l2, (Lit.int .u64 x).wf = true) (s0 : l0.length * 8 ≤ 140737488351232) (s1 : l1.length * 8 ≤ 140737488351232) : samphirelaw07_DrawOn.f 200 l0 l1 l2 = some true := by
  obtain ⟨xs, h0⟩ := words_of l0 w0
  obtain ⟨ys, h1⟩ := words_of l1 w1
  obtain ⟨zs, h2⟩ := words_of l2 w2
  have n0 := h0.length
  have n1 := h1.length
  have n2 := h2.length
  have hj : ∀ b, b = true → samphirelaw07_DrawOn.j0 200 l0 l1 l2 b = some true := fun b hb => by
    rw [hb, show (200 : Nat) = 199 + 1 from rfl, samphirelaw07_DrawOn.j0, if_pos rfl, awakeK 199 (by omega)]; rfl
  have ew : wrap64 ((l0.length : Int) + (l1.length : Int)) = ((l0.length + l1.length : Nat) : Int) := by unfold wrap64; omega
  unfold samphirelaw07_DrawOn.f
  rw [ew]
  by_cases hs : ((l0.length + l1.length : Nat) : Int) > 60
  · rw [if_pos hs]; exact hj _ rfl
  · rw [if_neg hs]
    by_cases hs2 : (l2.length : Int) > 20
    · exact hj _ (decide_eq_true hs2)
    · rw [decide_eq_false hs2, show (200 : Nat) = 199 + 1 from rfl, samphirelaw07_DrawOn.j0, if_neg (by decide), Option.bind_some, if_pos (by rw [List.length_nil]; omega), Option.bind_some, List.nil_append, if_pos (by omega)]
      exact on_loop h0 h1 h2 (by omega) (by omega) zs.length 0 0 199 (by omega) (by omega) (by omega)
end Go.Proofs.Ytpgfadljcmakfaa.Pure
namespace Go.Proofs.Ytpgfadljcmakfaa
open Go.RowKit Go.Proofs.Ytpgfadljcmakfaa.O Go.Proofs.YtpgfadljcmakfaaW.PrintWords Go.Proofs.YtpgfadljcmakfaaW.PrintLast
theorem drawOn_walk (a0 : Option Addr) (len0 cap0 : Nat) (z0 : List Int) (a1 : Option Addr) (len1 cap1 : Nat) (z1 : List Int) (a2 : Option Addr) (len2 cap2 : Nat) (z2 : List Int) (w : World)
    (w0 : (a0 = none ∧ len0 = 0 ∧ cap0 = 0 ∧ z0 = []) ∨ ∃ x, a0 = some x ∧ len0 ≤ cap0 ∧ cap0 ≤ maxLen ∧ z0.length = cap0 ∧ (∀ i, i < z0.length → w.cell? (x.add i) = some (.int .u64 (z0.getD i 0))) ∧ ∀ n ∈ z0, (Lit.int .u64 n).wf = true) (y0 : len0 * 8 ≤ 140737488351232)
    (w1 : (a1 = none ∧ len1 = 0 ∧ cap1 = 0 ∧ z1 = []) ∨ ∃ x, a1 = some x ∧ len1 ≤ cap1 ∧ cap1 ≤ maxLen ∧ z1.length = cap1 ∧ (∀ i, i < z1.length → w.cell? (x.add i) = some (.int .u64 (z1.getD i 0))) ∧ ∀ n ∈ z1, (Lit.int .u64 n).wf = true) (y1 : len1 * 8 ≤ 140737488351232)
    (w2 : (a2 = none ∧ len2 = 0 ∧ cap2 = 0 ∧ z2 = []) ∨ ∃ x, a2 = some x ∧ len2 ≤ cap2 ∧ cap2 ≤ maxLen ∧ z2.length = cap2 ∧ (∀ i, i < z2.length → w.cell? (x.add i) = some (.int .u64 (z2.getD i 0))) ∧ ∀ n ∈ z2, (Lit.int .u64 n).wf = true) (y2 : len2 * 8 ≤ 140737488351232) :
    Calls Try.prog 6 #[.slice a0 len0 cap0, .slice a1 len1 cap1, .slice a2 len2 cap2] w fun e w' => e = .returned (.bool true) ∧ Below w.heap.size w w' := by
  obtain ⟨l0, rfl, hr0, hm0, hw0, hc0⟩ := ReadsInt.ofRowC w0
  obtain ⟨l1, rfl, hr1, hm1, hw1, hc1⟩ := ReadsInt.ofRowC w1
  obtain ⟨l2, rfl, hr2, hm2, hw2, hc2⟩ := ReadsInt.ofRowC w2
  have c0 := Kd.C_of_reads (d := (0 : Int)) (h1 := fun _ => rfl) hr0
  refine (samphirelaw07_DrawOn.calls 200 (fun k => k < w.heap.size) _ _ l0 _ _ l1 _ _ l2 true w (Kd.V_mk hc0 ?_) (Kd.C_of_reads (d := (0 : Int)) (h1 := fun _ => rfl) hr1) hc1 (Kd.C_of_reads (d := (0 : Int)) (h1 := fun _ => rfl) hr2) hc2 (Pure.DrawOn l0 l1 l2 hw0 hw1 hw2 y0 y1)).mono ?_
  · exact Kd.C_F (Kd.heap_int _) c0
  · rintro e w' ⟨rfl, hd⟩
    exact ⟨rfl, hd⟩
end Go.Proofs.Ytpgfadljcmakfaa
