/- An item put in its own place leaves all as it was; one that stands behind all is popped again: over lists; and the law's walk. -/
import Derived.Test.YtobdhjnaglikaaaQx11
import Derived.Test.YtobdhjnaglikaaaOps
namespace Go.Proofs.Ytobdhjnaglikaaa.Pure
open Go.RowKit Go.Proofs.Ytobdhjnaglikaaa.Q Go.Proofs.YtobdhjnaglikaaaW.PrintWords Go.Proofs.YtobdhjnaglikaaaW.PrintLast
set_option linter.unusedVariables false
theorem awake0 : samphirelaw11_awake.f 40 = some true := by decide +kernel
theorem awake (k : Nat) : samphirelaw11_awake.f (40 + k) = some true := more_rounds samphirelaw11_awake.mono 40 k true awake0
theorem awake' {k : Nat} (h : 40 ≤ k) : samphirelaw11_awake.f k = some true := by
  obtain ⟨j, rfl⟩ : ∃ j, k = 40 + j := ⟨k - 40, by omega⟩
  exact awake j
theorem same_loop (l : List S25) (hl : l.length ≤ 60) (m : Nat) : ∀ (i k : Nat), i + m = l.length → m < k → samphireref10_Same.l0 k l l (i : Int) = some true := by
  induction m with
  | zero =>
    intro i k hi hk
    obtain ⟨k, rfl⟩ : ∃ j, k = j + 1 := ⟨k - 1, by omega⟩
    rw [samphireref10_Same.l0]
    exact iff_ (by omega) rfl
  | succ m ih =>
    intro i k hi hk
    obtain ⟨k, rfl⟩ : ∃ j, k = j + 1 := ⟨k - 1, by omega⟩
    have ew : wrap64 ((i : Int) + 1) = ((i + 1 : Nat) : Int) := by unfold wrap64; omega
    rw [samphireref10_Same.l0]
    refine ift (by omega) (ift (by omega) (ift (by omega) (iff_ (by simp) ?_)))
    rw [ew]
    exact ih (i + 1) k (by omega) (by omega)
theorem stays_loop (l : List S25) (hw : Wf l) (hl : l.length ≤ 60) (hh : Heap l) (x : S25) (hx : wfI x) (ox : okI x) (m : Nat) : ∀ (i k : Nat), i + m = l.length → m + 300 < k → (∀ j, j < i → cq (at_ l j) x < 0) →
    samphirelaw11_HeapStays.l0 k l l (l.length : Int) (i : Int) x.f0 x.f1 x.f2 = some true := by
  induction m with
  | zero =>
    intro i k hi hk hlt
    obtain ⟨k, rfl⟩ : ∃ j, k = j + 1 := ⟨k - 1, by omega⟩
    rw [samphirelaw11_HeapStays.l0]
    refine iff_ (by omega) ?_
    refine bnd (push_eq x hw hx (by omega) hh ox k (by omega)) ?_
    have hp := push_heap hw hx hh ox
    have hpw := push_wf hw hx
    have hpl := push_length l x
    have ht : at_ (pushL l x) 0 = x := by
      unfold pushL
      have hla : (l ++ [x]).length = l.length + 1 := by rw [List.length_append]; rfl
      rw [lift_top l.length (l ++ [x]) l.length (by omega) (Nat.le_refl _) ?_, at_last]
      intro j hj hne
      rw [at_last, at_app _ _ _ (by omega)]
      exact hlt j (by omega)
    refine bnd (pop_eq hpw (by omega) hp (by omega) k (by omega)) ?_
    refine ift rfl (ift rfl ?_)
    dsimp only
    rw [ht]
    have hr := pop_heap hpw hp (by omega)
    have hrl := pop_length (pushL l x) (by omega)
    have hrw := pop_wf hpw (by omega)
    refine ift (by simp) (ift (by omega) (bnd (right_yes hrw (by omega) hr k (by omega)) (ift rfl (bnd (awake' (by omega)) rfl))))
  | succ m ih =>
    intro i k hi hk hlt
    obtain ⟨k, rfl⟩ : ∃ j, k = j + 1 := ⟨k - 1, by omega⟩
    have ew : wrap64 ((i : Int) + 1) = ((i + 1 : Nat) : Int) := by unfold wrap64; omega
    rw [samphirelaw11_HeapStays.l0]
    refine ift (by omega) (ift (by omega) (ift (by omega) ?_))
    rw [rd_at]
    refine bnd (cmp_eq (at_ l i) x (hw _ (at_mem (by omega))) hx k (by omega)) ?_
    by_cases hc : 0 ≤ cq (at_ l i) x
    · exact ift hc (bnd (awake' (by omega)) rfl)
    · refine iff_ hc ?_
      rw [ew]
      refine ih (i + 1) k (by omega) (by omega) ?_
      intro j hj
      by_cases e : j = i
      · subst e; omega
      · exact hlt j (by omega)
theorem heapStays (l : List S25) (i : Int) (x : S25) (hw : Wf l) (hl : l.length ≤ 9223372036854775807) (hx : wfI x) : ∃ k, samphirelaw11_HeapStays.f k l i x.f0 x.f1 x.f2 = some true := by
  refine ⟨l.length + 600, ?_⟩
  have out : ∀ k, 100 < k → samphirelaw11_HeapStays.j0 k l i true x.f0 x.f1 x.f2 = some true := by
    intro k hk
    obtain ⟨k, rfl⟩ : ∃ j, k = j + 1 := ⟨k - 1, by omega⟩
    rw [samphirelaw11_HeapStays.j0]
    exact ift rfl (bnd (awake' (by omega)) rfl)
  unfold samphirelaw11_HeapStays.f
  obtain ⟨b, hb, hb2⟩ := small_eq l (l.length + 600) (by omega)
  refine bnd hb ?_
  cases b with
  | false => exact iff_ (by decide) (out _ (by omega))
  | true =>
    have h60 := hb2 rfl
    refine ift rfl ?_
    obtain ⟨c, hc, hc2⟩ := right_eq l hw hl (l.length + 600) (by omega)
    refine bnd hc ?_
    cases c with
    | false => exact iff_ (by decide) (out _ (by omega))
    | true =>
      have hh := hc2.1 rfl
      refine ift rfl ?_
      rcases check_eq x with ⟨ox, e⟩ | ⟨_, e', he', e⟩
      · refine bnd e ?_
        have j2 : ∀ k, 400 < k → samphirelaw11_HeapStays.j2 k l x.f0 x.f1 x.f2 = some true := by
          intro k hk
          obtain ⟨k, rfl⟩ : ∃ j, k = j + 1 := ⟨k - 1, by omega⟩
          rw [samphirelaw11_HeapStays.j2]
          exact stays_loop l hw h60 hh x hx ox l.length 0 k (by omega) (by omega) (fun j hj => absurd hj (by omega))
        show samphirelaw11_HeapStays.j0 ((l.length + 599) + 1) l i false x.f0 x.f1 x.f2 = some true
        rw [samphirelaw11_HeapStays.j0]
        refine iff_ (by decide) ?_
        by_cases h0 : i ≥ 0
        · refine ift h0 ?_
          show samphirelaw11_HeapStays.j1 ((l.length + 598) + 1) l i (decide (i < (l.length : Int))) x.f0 x.f1 x.f2 = some true
          rw [samphirelaw11_HeapStays.j1]
          by_cases h1 : i < (l.length : Int)
          · refine ift (decide_eq_true h1) (ift h0 (ift h1 ?_))
            obtain ⟨n, rfl⟩ : ∃ n : Nat, i = (n : Int) := ⟨i.toNat, by omega⟩
            rw [rd_at]
            refine bnd (put_self hw (by omega) hh n (by omega) (l.length + 598) (by omega)) (ift rfl ?_)
            have hs : samphireref10_Same.f (l.length + 598) l l = some true := by
              unfold samphireref10_Same.f
              exact ift rfl (same_loop l h60 l.length 0 _ (by omega) (by omega))
            exact bnd hs (ift rfl (j2 _ (by omega)))
          · exact iff_ (by rw [decide_eq_false h1]; decide) (j2 _ (by omega))
        · refine iff_ h0 ?_
          show samphirelaw11_HeapStays.j1 ((l.length + 598) + 1) l i false x.f0 x.f1 x.f2 = some true
          rw [samphirelaw11_HeapStays.j1]
          exact iff_ (by decide) (j2 _ (by omega))
      · refine bnd e ?_
        rw [show (e' != 0) = true from bne_iff_ne.2 he']
        exact out _ (by omega)
theorem heapStays_walk (A : Option Addr) (c : Nat) (l : List S25) (i : Int) (x : S25) (W : World) (hr : Kd.C k25 W A l.length l) (hc : l.length ≤ c) (hw : ∀ x ∈ l, wfI x) (hl : l.length ≤ 9223372036854775807) (hi : (Lit.int .i64 i).wf = true) (hx : wfI x) :
    Calls Try.prog 6 #[.slice A l.length c, .int .i64 i, .agg #[.string x.f0, .int .u64 x.f1, .int .u64 x.f2]] W fun e W' => e = .returned (.bool true) ∧ Below W.heap.size W W' := by
  obtain ⟨k, hk⟩ := heapStays l i x hw hl hx
  exact samphirelaw11_HeapStays.calls k A c l i x.f0 x.f1 x.f2 true W hr hc hk
end Go.Proofs.Ytobdhjnaglikaaa.Pure
