/- The one on top does not stand ahead of any other one; each that is there is found: over lists; and the law's walk. -/
import Derived.Test.YtobdhjnaglikaaaQx9
import Derived.Test.YtobdhjnaglikaaaOrd
namespace Go.Proofs.Ytobdhjnaglikaaa.Pure
open Go.RowKit Go.Proofs.Ytobdhjnaglikaaa.Q Go.Proofs.YtobdhjnaglikaaaW.PrintWords Go.Proofs.YtobdhjnaglikaaaW.PrintLast
set_option linter.unusedVariables false
theorem awake0 : samphirelaw11_awake.f 40 = some true := by decide +kernel
theorem awake (k : Nat) : samphirelaw11_awake.f (40 + k) = some true := more_rounds samphirelaw11_awake.mono 40 k true awake0
theorem awake' {k : Nat} (h : 40 ≤ k) : samphirelaw11_awake.f k = some true := by
  obtain ⟨j, rfl⟩ : ∃ j, k = 40 + j := ⟨k - 40, by omega⟩
  exact awake j
theorem top_loop (l : List S25) (hw : ∀ c ∈ l, wfI c) (hl : l.length ≤ 60) (hh : Heap l) (m : Nat) : ∀ (i k : Nat), i + m = l.length → m + 100 < k → samphirelaw11_HeapTop.l0 k l l (l.length : Int) (i : Int) = some true := by
  have hr : ∀ j : Nat, rd_T25 l (j : Int) = at_ l j := fun j => by unfold rd_T25 at_; rw [Int.toNat_natCast]
  induction m with
  | zero =>
    intro i k hi hk
    obtain ⟨k, rfl⟩ : ∃ j, k = j + 1 := ⟨k - 1, by omega⟩
    rw [samphirelaw11_HeapTop.l0]
    exact iff_ (by omega) (bnd (awake' (by omega)) rfl)
  | succ m ih =>
    intro i k hi hk
    obtain ⟨k, rfl⟩ : ∃ j, k = j + 1 := ⟨k - 1, by omega⟩
    have ew : wrap64 ((i : Int) + 1) = ((i + 1 : Nat) : Int) := by unfold wrap64; omega
    rw [samphirelaw11_HeapTop.l0]
    refine ift (by omega) (ift (by omega) (ift (by omega) ?_))
    rw [hr]
    obtain ⟨b, hb, hb2⟩ := right_eq l hw (by omega) k (by omega)
    obtain rfl : b = true := hb2.2 hh
    have hn : l.findIdx (isKey (at_ l i).f0) < l.length := List.findIdx_lt_length_of_exists ⟨at_ l i, at_mem (by omega), by unfold isKey; simp⟩
    have hf : heap_Find.f k l (at_ l i).f0 = some (((l.findIdx (isKey (at_ l i).f0) : Nat) : Int), true) := by
      unfold heap_Find.f
      refine ift (by omega) (bnd hb (ift rfl (ift hn rfl)))
    have hkey := findIdx_yes (isKey (at_ l i).f0) l hn
    generalize l.findIdx (isKey (at_ l i).f0) = n at *
    refine bnd hf (ift (by omega) ?_)
    have h0 : rd_T25 l 0 = at_ l 0 := hr 0
    rw [h0]
    have hc := cmp_eq (at_ l 0) (at_ l i) (hw _ (at_mem (by omega))) (hw _ (at_mem (by omega))) k (by omega)
    have ht := top_all hw hh i (by omega)
    have ha := cq_anti (at_ l i) (at_ l 0)
    refine bnd hc (iff_ (by omega) (ift rfl (iff_ (by dsimp only; omega) (iff_ (by dsimp only; omega) (ift (by dsimp only; omega) (ift (by dsimp only; omega) ?_))))))
    dsimp only
    rw [hr]
    refine ift ?_ (by rw [ew]; exact ih (i + 1) k (by omega) (by omega))
    unfold isKey at hkey
    exact beq_iff_eq.1 hkey
theorem heapTop (l : List S25) (hw : ∀ c ∈ l, wfI c) (hl : l.length ≤ 9223372036854775807) : ∃ k, samphirelaw11_HeapTop.f k l = some true := by
  refine ⟨l.length + 400, ?_⟩
  unfold samphirelaw11_HeapTop.f
  obtain ⟨b, hb, hb2⟩ := small_eq l (l.length + 400) (by omega)
  refine bnd hb ?_
  cases b with
  | false =>
    refine iff_ (by decide) ?_
    show samphirelaw11_HeapTop.j0 ((l.length + 399) + 1) l true = _
    rw [samphirelaw11_HeapTop.j0]
    exact ift rfl (bnd (awake' (by omega)) rfl)
  | true =>
    refine ift rfl ?_
    obtain ⟨c, hc, hc2⟩ := right_eq l hw hl (l.length + 400) (by omega)
    refine bnd hc ?_
    show samphirelaw11_HeapTop.j0 ((l.length + 399) + 1) l (!c) = _
    rw [samphirelaw11_HeapTop.j0]
    cases c with
    | false => exact ift rfl (bnd (awake' (by omega)) rfl)
    | true =>
      refine iff_ (by decide) ?_
      exact top_loop l hw (hb2 rfl) (hc2.1 rfl) l.length 0 _ (by omega) (by omega)
theorem heapTop_walk (A : Option Addr) (c : Nat) (l : List S25) (W : World) (hr : Kd.C k25 W A l.length l) (hc : l.length ≤ c) (hw : ∀ x ∈ l, wfI x) (hl : l.length ≤ 9223372036854775807) :
    Calls Try.prog 7 #[.slice A l.length c] W fun e W' => e = .returned (.bool true) ∧ Below W.heap.size W W' := by
  obtain ⟨k, hk⟩ := heapTop l hw hl
  exact samphirelaw11_HeapTop.calls k A c l true W hr hc hk
end Go.Proofs.Ytobdhjnaglikaaa.Pure
