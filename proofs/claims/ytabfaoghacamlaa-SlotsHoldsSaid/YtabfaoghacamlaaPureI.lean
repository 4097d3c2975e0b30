/- SlotsHolds over plain lists: its loops. -/
import Derived.Test.YtabfaoghacamlaaHx5
import Derived.Test.YtabfaoghacamlaaPureH
namespace Go.Proofs.Ytabfaoghacamlaa.PureH
open Go.RowKit Go.Proofs.Ytabfaoghacamlaa.Q Go.Proofs.Ytabfaoghacamlaa.H Go.Proofs.YtabfaoghacamlaaW.PrintWords Go.Proofs.YtabfaoghacamlaaW.PrintLast Go.Proofs.Ytabfaoghacamlaa.DrawH
set_option linter.unusedVariables false
/-- The loop over the keys, each of which came: then the next round. -/
theorem key_loop (n T : Int) (all : List ByteArray) (l : List S35) (len i : Int) (R : List ByteArray) (lw : List Int) (b : Int) (hR : R.length ≤ 10) (hall : all.length ≤ 30) (hm : ∀ y ∈ R, y ∈ all) (K : Nat)
    (H : ∀ k', K ≤ k' → samphirelaw17_SlotsHolds.l0 k' n T all l len (wrap64 (i + 1)) n T R lw b = some true) (m : Nat) :
    ∀ (j k : Nat), j + m = R.length → m + K + 40 < k → samphirelaw17_SlotsHolds.l1 k n T all l len i R (R.length : Int) (j : Int) n T R lw b = some true := by
  induction m with
  | zero =>
    intro j k hj hk
    obtain ⟨k, rfl⟩ : ∃ j, k = j + 1 := ⟨k - 1, by omega⟩
    rw [samphirelaw17_SlotsHolds.l1, if_neg (by omega)]
    exact H k (by omega)
  | succ m ih =>
    intro j k hj hk
    obtain ⟨k, rfl⟩ : ∃ j, k = j + 1 := ⟨k - 1, by omega⟩
    rw [samphirelaw17_SlotsHolds.l1, if_pos (by omega), if_pos (by omega), if_pos (by omega), rd_at _ j (by omega)]
    obtain ⟨r, h1, h2⟩ := count_ all R[j] (by omega) k (by omega) (hm _ (List.getElem_mem _))
    refine bnd h1 ?_
    rw [if_neg (by omega), wrap64_add1 j (by omega)]
    exact ih (j + 1) k (by omega) (by omega)
/-- What is so of the sample behind i keys. -/
def Fine (n T : Nat) (all keys : List ByteArray) : Prop := (T = 0 ∧ keys = []) ∨ (0 < T ∧ keys.length = n ∧ ∀ y ∈ keys, y.size ≤ 64 ∧ y ∈ all)
theorem added (n : Nat) (h1 : 1 ≤ n) (h2 : n ≤ 10) {lw : List Int} {xs : List Nat} (h : Words lw xs) (hx : xs.length ≤ 300) (k a T wt : Nat) (all keys : List ByteArray) (x : ByteArray) (hs : x.size ≤ 64) (hw : 0 < wt) (hT : T + wt < 18446744073709551616) (ha : a ≤ xs.length)
    (hF : Fine n T all keys) (hk : 400 < k) :
    (∃ (R : List ByteArray) (b : Nat), b ≤ xs.length ∧ R.length = n ∧ (∀ y ∈ R, y.size ≤ 64 ∧ y ∈ all ++ [x]) ∧ slots_Add.f k (n : Int) (T : Int) keys x (wt : Int) lw (a : Int) = some ((n : Int), ((T + wt : Nat) : Int), R, lw, (b : Int), 0)) ∨
    (keys.length ≤ 10 ∧ slots_Add.f k (n : Int) (T : Int) keys x (wt : Int) lw (a : Int) = some ((n : Int), (T : Int), keys, lw, (a : Int), 8)) := by
  rcases hF with ⟨rfl, rfl⟩ | ⟨hT0, hl, hP⟩
  · refine .inl ⟨List.replicate n x, a, ha, List.length_replicate, fun y hy => ?_, ?_⟩
    · rw [List.eq_of_mem_replicate hy]; exact ⟨hs, List.mem_append.2 (.inr (List.mem_singleton.2 rfl))⟩
    · rw [Nat.zero_add]; exact add_first k n h1 (by omega) x hs wt hw (by omega) lw a
  · rcases add_any k n h1 (by omega) T wt hT0 hw hT keys hl (fun y hy => (hP y hy).1) x hs h (by omega) a ha (fun y => y.size ≤ 64 ∧ y ∈ all ++ [x]) ⟨hs, List.mem_append.2 (.inr (List.mem_singleton.2 rfl))⟩
      (fun y hy => ⟨(hP y hy).1, List.mem_append.2 (.inl (hP y hy).2)⟩) (by omega) with ⟨R, b, e1, e2, e3, e4⟩ | e
    · exact .inl ⟨R, b, e1, e2, e3, e4⟩
    · exact .inr ⟨by omega, e⟩
theorem rd_mem (l : List S35) (i : Nat) (h : i < l.length) : rd_T35 l (i : Int) ∈ l := by
  unfold rd_T35
  rw [Int.toNat_natCast, List.getD_eq_getElem?_getD, List.getElem?_eq_getElem h]; exact List.getElem_mem h
set_option maxRecDepth 10000 in
theorem ar (n m k : Nat) (h : n ≤ 10) (hk : 80 * (m + 1) + 500 < k + 3) : n + (80 * m + 501) + 40 < k := by omega
theorem holds_loop (n : Nat) (h1 : 1 ≤ n) (h2 : n ≤ 10) {lw : List Int} {xs : List Nat} (h : Words lw xs) (hx : xs.length ≤ 300) (l : List S35) (hl : l.length ≤ 30) (hwf : ∀ c ∈ l, 0 ≤ c.f1) (m : Nat) :
    ∀ (i k a T : Nat) (all keys : List ByteArray), i + m = l.length → 80 * m + 500 < k → a ≤ xs.length → T ≤ i * 1125899906842624 → all.length = i → Fine n T all keys →
      samphirelaw17_SlotsHolds.l0 k (n : Int) (T : Int) all l (l.length : Int) (i : Int) (n : Int) (T : Int) keys lw (a : Int) = some true := by
  induction m with
  | zero =>
    intro i k a T all keys hi hk ha hT hal hF
    obtain ⟨k, rfl⟩ : ∃ j, k = j + 1 := ⟨k - 1, by omega⟩
    rw [samphirelaw17_SlotsHolds.l0, if_neg (by omega)]
    exact bnd (awake' (by omega)) rfl
  | succ m ih =>
    intro i k a T all keys hi hk ha hT hal hF
    obtain ⟨k, rfl⟩ : ∃ j, k = j + 3 := ⟨k - 3, by omega⟩
    have hm := hwf _ (rd_mem l i (by omega))
    show samphirelaw17_SlotsHolds.l0 ((k + 2) + 1) _ _ _ _ _ _ _ _ _ _ _ = _
    rw [samphirelaw17_SlotsHolds.l0, if_pos (by omega), if_pos (by omega), if_pos (by omega)]
    revert hm
    generalize rd_T35 l (i : Int) = c
    obtain ⟨key, wt⟩ := c
    intro hm
    dsimp only at hm ⊢
    obtain ⟨wt, rfl⟩ := Int.eq_ofNat_of_zero_le hm
    have hj : ∀ (b : Bool), (b = false → key.size ≤ 64 ∧ 0 < wt ∧ wt ≤ 1125899906842624) →
        samphirelaw17_SlotsHolds.j2 (k + 2) (n : Int) (T : Int) all l (l.length : Int) (i : Int) b (n : Int) (T : Int) keys lw (a : Int) key (wt : Int) = some true := by
      intro b hb
      show samphirelaw17_SlotsHolds.j2 ((k + 1) + 1) _ _ _ _ _ _ _ _ _ _ _ _ _ _ = _
      rw [samphirelaw17_SlotsHolds.j2]
      cases b with
      | true => rw [if_pos rfl]; exact bnd (awake' (by omega)) rfl
      | false =>
        obtain ⟨g1, g2, g3⟩ := hb rfl
        rw [if_neg (by decide)]
        have hw1 : IntKind.u64.wrap ((T : Int) + (wt : Int)) = ((T + wt : Nat) : Int) := by rw [← Int.natCast_add]; exact wrap_u _ (by omega)
        rcases added n h1 h2 h hx (k + 1) a T wt all keys key g1 g2 (by omega) ha hF (by omega) with ⟨R, b, e1, e2, e3, e4⟩ | ⟨e0, e4⟩
        · refine bnd e4 ?_
          dsimp only
          rw [if_pos rfl, if_pos (by omega)]
          refine bnd rfl ?_
          rw [hw1, if_pos rfl, if_pos (by omega)]
          refine bnd (right1 n _ (by omega) R e2 (fun y hy => (e3 y hy).1) h1 (by omega)) ?_
          rw [samphirelaw17_SlotsHolds.j3, if_neg (by decide)]
          have hK : ∀ k', 80 * m + 501 ≤ k' → samphirelaw17_SlotsHolds.l0 k' (n : Int) ((T + wt : Nat) : Int) (all ++ [key]) l (l.length : Int) (wrap64 ((i : Int) + 1)) (n : Int) ((T + wt : Nat) : Int) R lw (b : Int) = some true := by
            intro k' hk'
            rw [wrap64_add1 i (by omega)]
            exact ih (i + 1) k' b (T + wt) _ R (by omega) (by omega) e1 (by omega) (by rw [List.length_append, hal]; rfl) (.inr ⟨by omega, e2, e3⟩)
          have hal2 : (all ++ [key]).length ≤ 30 := by rw [List.length_append, List.length_singleton]; omega
          have hk2 : R.length + (80 * m + 501) + 40 < k := by rw [e2]; exact ar n m k h2 hk
          have q := key_loop (n : Int) ((T + wt : Nat) : Int) (all ++ [key]) l (l.length : Int) (i : Int) R lw (b : Int) (by rw [e2]; exact h2) hal2 (fun y hy => (e3 y hy).2) (80 * m + 501) hK R.length 0 k (Nat.zero_add _) hk2
          exact q
        · refine bnd e4 ?_
          dsimp only
          rw [if_neg (by decide), if_pos rfl]
          refine bnd rfl (bnd rfl ?_)
          refine bnd (same _ _ keys (by omega) (k + 1) (by omega)) ?_
          rw [if_pos rfl, if_pos rfl]
          exact bnd (awake' (by omega)) rfl
    by_cases c1 : (key.size : Int) > 64
    · rw [if_pos c1]; exact hj true (fun e => by cases e)
    · rw [if_neg c1]
      by_cases c2 : (wt : Int) = 0
      · rw [if_pos c2]; exact hj true (fun e => by cases e)
      · rw [if_neg c2]
        exact hj _ (fun e => by have := of_decide_eq_false e; omega)
/-- The law over plain lists. -/
theorem holds_f (q : Int) (h0 : 0 ≤ q) (h255 : q ≤ 255) {lw : List Int} {xs : List Nat} (h : Words lw xs) (l : List S35) (hwf : ∀ c ∈ l, 0 ≤ c.f1) : samphirelaw17_SlotsHolds.f 5000 q l lw = some true := by
  obtain ⟨n, hn, n1, n2⟩ : ∃ n : Nat, wrap64 (1 + (wrap64 (Int.tmod q 10))) = (n : Int) ∧ 1 ≤ n ∧ n ≤ 10 := by
    obtain ⟨q, rfl⟩ := Int.eq_ofNat_of_zero_le h0
    refine ⟨1 + q % 10, ?_, by omega, by omega⟩
    have e : Int.tmod (q : Int) 10 = ((q % 10 : Nat) : Int) := by rw [Int.tmod_eq_emod_of_nonneg (by omega)]; rfl
    rw [e]
    unfold wrap64; omega
  unfold samphirelaw17_SlotsHolds.f
  rw [hn]
  refine bnd (new_ n n1 (by omega)) ?_
  dsimp only
  rw [if_pos rfl]
  have hl := h.length
  have hj : ∀ b : Bool, (b = false → l.length ≤ 30 ∧ xs.length ≤ 300) → samphirelaw17_SlotsHolds.j0 5000 l lw (n : Int) 0 b (n : Int) 0 [] = some true := by
    intro b hb
    show samphirelaw17_SlotsHolds.j0 (4999 + 1) _ _ _ _ _ _ _ _ = _
    rw [samphirelaw17_SlotsHolds.j0]
    cases b with
    | true => rw [if_pos rfl, if_pos rfl]; exact bnd (awake' (by omega)) rfl
    | false =>
      obtain ⟨g1, g2⟩ := hb rfl
      rw [if_neg (by decide)]
      exact holds_loop n n1 n2 h g2 l g1 hwf l.length 0 4999 0 0 [] [] (by omega) (by omega) (by omega) (by omega) rfl (.inl ⟨rfl, rfl⟩)
  by_cases c1 : (l.length : Int) > 30
  · rw [if_pos c1]; exact hj true (fun e => by cases e)
  · rw [if_neg c1]; exact hj _ (fun e => by have := of_decide_eq_false e; omega)
end Go.Proofs.Ytabfaoghacamlaa.PureH
