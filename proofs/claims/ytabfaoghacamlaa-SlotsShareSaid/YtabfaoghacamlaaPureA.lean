/- slots over plain lists: New, the first key, the choice place by place. -/
import Derived.Test.YtabfaoghacamlaaQx4
import Derived.Test.YtabfaoghacamlaaDraw
namespace Go.Proofs.Ytabfaoghacamlaa.Pure
open Go.RowKit Go.Proofs.Ytabfaoghacamlaa.Q Go.Proofs.YtabfaoghacamlaaW.PrintWords Go.Proofs.YtabfaoghacamlaaW.PrintLast Go.Proofs.Ytabfaoghacamlaa.Draw
set_option linter.unusedVariables false
theorem awake0 : samphirelaw17_awake.f 30 = some true := by decide +kernel
theorem awake (k : Nat) : samphirelaw17_awake.f (30 + k) = some true := more_rounds samphirelaw17_awake.mono 30 k true awake0
theorem awake' {k : Nat} (h : 30 ≤ k) : samphirelaw17_awake.f k = some true := by
  obtain ⟨j, rfl⟩ : ∃ j, k = 30 + j := ⟨k - 30, by omega⟩
  exact awake j
theorem rd_at (l : List ByteArray) (i : Nat) (h : i < l.length) : rdOf ByteArray.empty l (i : Int) = l[i] := by
  unfold rdOf
  rw [Int.toNat_natCast, List.getD_eq_getElem?_getD, List.getElem?_eq_getElem h]; rfl
theorem rd_getD (l : List ByteArray) (i : Nat) : rdOf ByteArray.empty l (i : Int) = l.getD i ByteArray.empty := by
  unfold rdOf; rw [Int.toNat_natCast]
theorem wrap_u (n : Nat) (h : n < 18446744073709551616) : IntKind.u64.wrap (n : Int) = (n : Int) := by rw [IntKind.wrap_u64]; omega
theorem new_ (n : Nat) (h1 : 1 ≤ n) (h2 : n ≤ 1024) : slots_New.f (n : Int) = some ((n : Int), 0, [], 0) := by
  unfold slots_New.f
  rw [if_neg (by omega), if_neg (by omega)]
theorem rep1 (x : ByteArray) (n : Nat) (h1 : 1 ≤ n) (h2 : n ≤ 1024) : rep_.f [x] (n : Int) = some (List.replicate n x) := by
  unfold rep_.f
  rw [if_pos ⟨rfl, by omega, by omega⟩, Int.toNat_natCast]; rfl
theorem long_no (l : List ByteArray) (h : ∀ x ∈ l, x.size ≤ 64) : long l = false := by
  unfold long
  rw [List.any_eq_false]; intro x hx; have := h x hx; simp; omega
theorem right0 (n : Nat) (h1 : 1 ≤ n) (h2 : n ≤ 1024) : slots_Right.f (n : Int) 0 [] = some true := by
  unfold slots_Right.f
  rw [if_pos (by decide)]
  unfold rightB
  rw [decide_eq_true ⟨by omega, by omega, rfl⟩]; rfl
theorem right1 (n : Nat) (T : Int) (hT : 0 < T) (l : List ByteArray) (hl : l.length = n) (hs : ∀ x ∈ l, x.size ≤ 64) (h1 : 1 ≤ n) (h2 : n ≤ 1024) : slots_Right.f (n : Int) T l = some true := by
  unfold slots_Right.f
  rw [if_pos (by omega)]
  unfold rightB
  rw [decide_eq_true ⟨by omega, by omega, by unfold mn; rw [if_pos hT, hl]⟩, long_no l hs]; rfl
theorem add_first (k n : Nat) (h1 : 1 ≤ n) (h2 : n ≤ 1024) (x : ByteArray) (hx : x.size ≤ 64) (wt : Nat) (hw : 0 < wt) (hw2 : wt < 18446744073709551616) (l : List Int) (a : Int) :
    slots_Add.f k (n : Int) 0 [] x (wt : Int) l a = some ((n : Int), (wt : Int), List.replicate n x, l, a, 0) := by
  unfold slots_Add.f
  refine bnd (right0 n h1 h2) ?_
  refine ift rfl (iff_ (by omega) (iff_ (by omega) ?_))
  rw [Int.zero_add, wrap_u wt hw2]
  refine iff_ (by omega) (bnd (rep1 x n h1 h2) ?_)
  rw [if_pos rfl]
theorem getD_set (l : List ByteArray) (i j : Nat) (x e : ByteArray) (hi : i < l.length) : (l.set i x).getD j e = if j = i then x else l.getD j e := by
  rw [List.getD_eq_getElem?_getD, List.getElem?_set, List.getD_eq_getElem?_getD]
  by_cases h : j = i
  · subst h; rw [if_pos rfl, if_pos rfl, if_pos hi]; rfl
  · rw [if_neg (fun e => h e.symm), if_neg h]
theorem choose_loop (x : ByteArray) (rest wt : Int) (l lq : List Int) (a : Nat) (aq : Int) (n : Nat) (hn : n < 4611686018427387904) (v : Nat → Int) (K : Nat)
    (hB : ∀ i, i < n → ∀ k', K ≤ k' → draw_Below.f k' l ((a + i : Nat) : Int) (IntKind.u64.wrap (rest + wt)) = some (v i, l, ((a + (i + 1) : Nat) : Int), 0)) (m : Nat) :
    ∀ (i k : Nat) (out : List ByteArray), i + m = n → m + K < k → out.length = n →
      ∃ R, slots_choose.l0 k (List.replicate n x) rest wt out (n : Int) (i : Int) lq aq l ((a + i : Nat) : Int) = some (R, l, ((a + n : Nat) : Int), 0) ∧ R.length = n ∧
        ∀ j, R.getD j ByteArray.empty = if i ≤ j ∧ j < n ∧ v j < wt then x else out.getD j ByteArray.empty := by
  induction m with
  | zero =>
    intro i k out hi hk ho
    obtain ⟨k, rfl⟩ : ∃ j, k = j + 1 := ⟨k - 1, by omega⟩
    obtain rfl : i = n := by omega
    refine ⟨out, ?_, ho, fun j => by rw [if_neg (by omega)]⟩
    rw [slots_choose.l0, if_neg (by omega)]
  | succ m ih =>
    intro i k out hi hk ho
    obtain ⟨k, rfl⟩ : ∃ j, k = j + 1 := ⟨k - 1, by omega⟩
    by_cases hv : v i < wt
    · obtain ⟨R, h1, h2, h3⟩ := ih (i + 1) k (out.set i x) (by omega) (by omega) (by rw [List.length_set]; exact ho)
      refine ⟨R, ?_, h2, fun j => ?_⟩
      · rw [slots_choose.l0]
        refine ift (by omega) (bnd (hB i (by omega) k (by omega)) ?_)
        dsimp only
        refine ift rfl (ift hv (ift (by omega) (ift (by rw [List.length_replicate]; omega) (ift (by omega) ?_))))
        rw [rd_at _ i (by rw [List.length_replicate]; omega), List.getElem_replicate, Int.toNat_natCast, wrap64_add1 i (by omega)]
        exact h1
      · rw [h3 j, getD_set _ _ _ _ _ (by omega)]
        by_cases hj : j = i
        · subst hj
          rw [if_neg (by omega), if_pos rfl, if_pos ⟨by omega, by omega, hv⟩]
        · rw [if_neg hj]
          by_cases hc : i ≤ j ∧ j < n ∧ v j < wt
          · rw [if_pos hc, if_pos ⟨by omega, hc.2⟩]
          · rw [if_neg hc, if_neg (fun h => hc ⟨by omega, h.2⟩)]
    · obtain ⟨R, h1, h2, h3⟩ := ih (i + 1) k out (by omega) (by omega) ho
      refine ⟨R, ?_, h2, fun j => ?_⟩
      · rw [slots_choose.l0]
        refine ift (by omega) (bnd (hB i (by omega) k (by omega)) ?_)
        dsimp only
        refine ift rfl (iff_ hv ?_)
        rw [wrap64_add1 i (by omega)]
        exact h1
      · rw [h3 j]
        by_cases hj : j = i
        · subst hj
          rw [if_neg (by omega), if_neg (fun h => hv h.2.2)]
        · by_cases hc : i ≤ j ∧ j < n ∧ v j < wt
          · rw [if_pos hc, if_pos ⟨by omega, hc.2⟩]
          · rw [if_neg hc, if_neg (fun h => hc ⟨by omega, h.2⟩)]
/-- One more came, and some were there. -/
theorem add_more (k n : Nat) (h1 : 1 ≤ n) (h2 : n ≤ 1024) (T wt : Nat) (hT : 0 < T) (hw : 0 < wt) (hs : T + wt < 18446744073709551616) (old : List ByteArray) (ho : old.length = n) (hold : ∀ x ∈ old, x.size ≤ 64)
    (x : ByteArray) (hx : x.size ≤ 64) (l : List Int) (a : Nat) (v : Nat → Int) (K : Nat) (hk : n + K < k)
    (hB : ∀ i, i < n → ∀ k', K ≤ k' → draw_Below.f k' l ((a + i : Nat) : Int) ((T + wt : Nat) : Int) = some (v i, l, ((a + (i + 1) : Nat) : Int), 0)) :
    ∃ R, slots_Add.f k (n : Int) (T : Int) old x (wt : Int) l (a : Int) = some ((n : Int), ((T + wt : Nat) : Int), R, l, ((a + n : Nat) : Int), 0) ∧ R.length = n ∧
      ∀ j, R.getD j ByteArray.empty = if j < n ∧ v j < (wt : Int) then x else old.getD j ByteArray.empty := by
  have e : IntKind.u64.wrap ((T : Int) + (wt : Int)) = ((T + wt : Nat) : Int) := by rw [← Int.natCast_add]; exact wrap_u _ hs
  obtain ⟨R, hR1, hR2, hR3⟩ := choose_loop x (T : Int) (wt : Int) l l a (a : Int) n (by omega) v K (by rw [e]; exact hB) n 0 k old (by omega) hk ho
  refine ⟨R, ?_, hR2, fun j => ?_⟩
  · unfold slots_Add.f
    refine bnd (right1 n T (by omega) old ho hold h1 h2) ?_
    refine ift rfl (iff_ (by omega) (iff_ (by omega) ?_))
    rw [e]
    refine iff_ (by omega) (bnd (rep1 x n h1 h2) ?_)
    rw [if_neg (by omega)]
    refine bnd (x := (R, l, ((a + n : Nat) : Int), 0)) ?_ ?_
    · unfold slots_choose.f
      refine bnd (x := old) (by unfold clone_.f; rw [if_pos (by omega)]) ?_
      rw [ho]
      exact hR1
    · dsimp only
      rw [if_pos rfl]
  · rw [hR3 j]
    by_cases hc : j < n ∧ v j < (wt : Int)
    · rw [if_pos hc, if_pos ⟨Nat.zero_le _, hc⟩]
    · rw [if_neg hc, if_neg (fun h => hc h.2)]
end Go.Proofs.Ytabfaoghacamlaa.Pure
