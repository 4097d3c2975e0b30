/- All items that are pushed come down in order, from the last one on: over lists; and the law's walk. -/
import Derived.Test.YtobdhjnaglikaaaQx13
import Derived.Test.YtobdhjnaglikaaaOps
import Derived.Lib.Strings
namespace Go.Proofs.Ytobdhjnaglikaaa.Pure
open Go.RowKit Go.Proofs.Ytobdhjnaglikaaa.Q Go.Proofs.YtobdhjnaglikaaaW.PrintWords Go.Proofs.YtobdhjnaglikaaaW.PrintLast Go.Proofs.YtobdhjnaglikaaaW.PrintMore
set_option linter.unusedVariables false
theorem awake0 : samphirelaw11_awake.f 40 = some true := by decide +kernel
theorem awake (k : Nat) : samphirelaw11_awake.f (40 + k) = some true := more_rounds samphirelaw11_awake.mono 40 k true awake0
theorem awake' {k : Nat} (h : 40 ≤ k) : samphirelaw11_awake.f k = some true := by
  obtain ⟨j, rfl⟩ : ∃ j, k = 40 + j := ⟨k - 40, by omega⟩
  exact awake j
def isE (x y : S25) : Bool := y.f0.toList == x.f0.toList && (y.f1 == x.f1 && (y.f2 == x.f2))
theorem isE_eq {x y : S25} (h : isE x y = true) : y = x := by
  unfold isE at h
  simp only [Bool.and_eq_true, beq_iff_eq] at h
  obtain ⟨h0, h1, h2⟩ := h
  rw [Go.Lib.toList_data, Go.Lib.toList_data] at h0
  have e0 : y.f0 = x.f0 := ByteArray.ext (Array.toList_inj.1 h0)
  cases x; cases y; simp at e0 h1 h2; subst e0 h1 h2; rfl
theorem isE_self (x : S25) : isE x x = true := by unfold isE; simp
/-- Items, but one that is equal. -/
def withoutL (x : S25) : List S25 → List S25
  | [] => []
  | y :: l => if isE x y = true then l else y :: withoutL x l
theorem without_perm (x : S25) : ∀ (l : List S25), x ∈ l → (x :: withoutL x l).Perm l
  | [], h => by cases h
  | y :: l, h => by
    rw [withoutL]
    by_cases e : isE x y = true
    · rw [if_pos e, isE_eq e]
    · rw [if_neg e]
      have hx : x ∈ l := by
        rcases List.mem_cons.1 h with g | g
        · subst g; exact absurd (isE_self x) e
        · exact g
      exact (List.Perm.swap y x _).trans (List.Perm.cons _ (without_perm x l hx))
theorem without_gone (l : List S25) (x : S25) (hl : l.length < 50000) (m : Nat) : ∀ (i k : Nat) (acc : List S25), i + m = l.length → m < k → acc.length + m < 100000 →
    samphirelaw11_without.l0 k acc true l (l.length : Int) (i : Int) x.f0 x.f1 x.f2 = some (acc ++ l.drop i) := by
  induction m with
  | zero =>
    intro i k acc hi hk ha
    obtain ⟨k, rfl⟩ : ∃ j, k = j + 1 := ⟨k - 1, by omega⟩
    rw [samphirelaw11_without.l0, List.drop_of_length_le (by omega), List.append_nil]
    exact iff_ (by omega) rfl
  | succ m ih =>
    intro i k acc hi hk ha
    obtain ⟨k, rfl⟩ : ∃ j, k = j + 1 := ⟨k - 1, by omega⟩
    have ew : wrap64 ((i : Int) + 1) = ((i + 1 : Nat) : Int) := by unfold wrap64; omega
    rw [samphirelaw11_without.l0]
    refine ift (by omega) (ift (by omega) (ift (by omega) (ift rfl (ift (by omega) ?_))))
    rw [ew, rd_at]
    have e : l.drop i = at_ l i :: l.drop (i + 1) := by
      have hi2 : i < l.length := by omega
      have e0 : at_ l i = l[i] := by unfold at_; rw [List.getD_eq_getElem?_getD, List.getElem?_eq_getElem hi2]; rfl
      rw [e0, List.getElem_cons_drop]
    rw [ih (i + 1) k _ (by omega) (by omega) (by rw [List.length_append]; show acc.length + 1 + m < _; omega), e]
    simp
theorem without_loop (l : List S25) (x : S25) (hl : l.length < 50000) (m : Nat) : ∀ (i k : Nat) (acc : List S25), i + m = l.length → m < k → acc.length + m < 100000 →
    samphirelaw11_without.l0 k acc false l (l.length : Int) (i : Int) x.f0 x.f1 x.f2 = some (acc ++ withoutL x (l.drop i)) := by
  induction m with
  | zero =>
    intro i k acc hi hk ha
    obtain ⟨k, rfl⟩ : ∃ j, k = j + 1 := ⟨k - 1, by omega⟩
    rw [samphirelaw11_without.l0, List.drop_of_length_le (by omega), withoutL, List.append_nil]
    exact iff_ (by omega) rfl
  | succ m ih =>
    intro i k acc hi hk ha
    obtain ⟨k, rfl⟩ : ∃ j, k = j + 1 := ⟨k - 1, by omega⟩
    have ew : wrap64 ((i : Int) + 1) = ((i + 1 : Nat) : Int) := by unfold wrap64; omega
    have e : l.drop i = at_ l i :: l.drop (i + 1) := by
      have hi2 : i < l.length := by omega
      have e0 : at_ l i = l[i] := by unfold at_; rw [List.getD_eq_getElem?_getD, List.getElem?_eq_getElem hi2]; rfl
      rw [e0, List.getElem_cons_drop]
    rw [samphirelaw11_without.l0, e, withoutL]
    refine ift (by omega) (ift (by omega) (ift (by omega) (iff_ (by decide) ?_)))
    rw [ew, rd_at]
    by_cases h : isE x (at_ l i) = true
    · rw [if_pos h]
      refine ift h ?_
      exact without_gone l x hl m (i + 1) k acc (by omega) (by omega) (by omega)
    · rw [if_neg h]
      refine iff_ h (ift (by omega) ?_)
      rw [ih (i + 1) k _ (by omega) (by omega) (by rw [List.length_append]; show acc.length + 1 + m < _; omega)]
      simp
theorem without_eq (l : List S25) (x : S25) (hl : l.length < 50000) (k : Nat) (hk : l.length < k) : samphirelaw11_without.f k l x.f0 x.f1 x.f2 = some (withoutL x l) := by
  unfold samphirelaw11_without.f
  have := without_loop l x hl l.length 0 k [] (by omega) hk (by simp; omega)
  rw [List.drop_zero, List.nil_append] at this
  exact this
theorem may_eq (x : S25) (hx : wfI x) : ∃ b, samphireref10_May.f x.f0 x.f1 x.f2 = some b ∧ (b = true → okI x) := by
  unfold samphireref10_May.f okI
  by_cases h : (x.f0.size : Int) ≤ 64
  · exact ⟨_, ift h rfl, fun g => ⟨by omega, by have := of_decide_eq_true g; omega⟩⟩
  · exact ⟨false, iff_ h rfl, fun g => by cases g⟩
theorem all_loop (l : List S25) (hw : Wf l) (hl : l.length < 50000) (m : Nat) : ∀ (i k : Nat), i + m = l.length → m < k → ∃ b, samphireref10_All.l0 k l (i : Int) = some b ∧ (b = true → ∀ j, i ≤ j → j < l.length → okI (at_ l j)) := by
  induction m with
  | zero =>
    intro i k hi hk
    obtain ⟨k, rfl⟩ : ∃ j, k = j + 1 := ⟨k - 1, by omega⟩
    exact ⟨true, by rw [samphireref10_All.l0]; exact iff_ (by omega) rfl, fun _ j h1 h2 => by omega⟩
  | succ m ih =>
    intro i k hi hk
    obtain ⟨k, rfl⟩ : ∃ j, k = j + 1 := ⟨k - 1, by omega⟩
    have ew : wrap64 ((i : Int) + 1) = ((i + 1 : Nat) : Int) := by unfold wrap64; omega
    obtain ⟨c, hc, hc2⟩ := may_eq (at_ l i) (hw _ (at_mem (by omega)))
    obtain ⟨b, hb, hb2⟩ := ih (i + 1) k (by omega) (by omega)
    cases c with
    | false =>
      refine ⟨false, ?_, fun g => by cases g⟩
      rw [samphireref10_All.l0]
      refine ift (by omega) (ift (by omega) ?_)
      rw [rd_at]
      exact bnd hc (iff_ (by decide) rfl)
    | true =>
      refine ⟨b, ?_, fun g j h1 h2 => ?_⟩
      · rw [samphireref10_All.l0]
        refine ift (by omega) (ift (by omega) ?_)
        rw [rd_at]
        refine bnd hc (ift rfl ?_)
        rw [ew]; exact hb
      · rcases Nat.eq_or_lt_of_le h1 with e | e
        · subst e; exact hc2 rfl
        · exact hb2 g j e h2
/-- Each one not behind the one ahead. -/
def Falls (d : List S25) : Prop := ∀ i, 0 < i → i < d.length → cq (at_ d i) (at_ d (i - 1)) ≤ 0
theorem down_loop (n : Nat) : ∀ (h d : List S25) (k : Nat), h.length = n → n + d.length < 50000 → Wf h → Heap h → 2 * n + n + 40 < k → Falls d → (∀ c ∈ h, 0 < d.length → cq c (at_ d (d.length - 1)) ≤ 0) →
    ∃ r, heap_Down.l0 k h d = some r ∧ r.Perm (d ++ h) ∧ Falls r := by
  induction n with
  | zero =>
    intro h d k hn hl hw hh hk hf hc
    obtain ⟨k, rfl⟩ : ∃ j, k = j + 1 := ⟨k - 1, by omega⟩
    obtain rfl : h = [] := List.eq_nil_of_length_eq_zero hn
    refine ⟨d, ?_, by rw [List.append_nil], hf⟩
    rw [heap_Down.l0]
    exact bnd (pop_nil k (by omega)) (iff_ (by decide) rfl)
  | succ n ih =>
    intro h d k hn hl hw hh hk hf hc
    obtain ⟨k, rfl⟩ : ∃ j, k = j + 1 := ⟨k - 1, by omega⟩
    have hpl := pop_length h (by omega)
    have hp := pop_perm h (by omega)
    have ht : ∀ c ∈ h, cq c (at_ h 0) ≤ 0 := fun c hcm => by
      obtain ⟨i, hi, rfl⟩ := List.mem_iff_getElem.1 hcm
      have := top_all hw hh i hi
      unfold at_ at this
      rw [List.getD_eq_getElem?_getD, List.getElem?_eq_getElem hi] at this
      exact this
    have hda : (d ++ [at_ h 0]).length = d.length + 1 := by rw [List.length_append]; rfl
    have g1 : Falls (d ++ [at_ h 0]) := by
      intro i h0 hi
      rw [hda] at hi
      by_cases e : i = d.length
      · subst e
        rw [at_last, at_app _ _ _ (by omega)]
        exact hc _ (at_mem (by omega)) h0
      · rw [at_app _ _ _ (by omega), at_app _ _ _ (by omega)]
        exact hf i h0 (by omega)
    have g2 : ∀ c ∈ popL h, 0 < (d ++ [at_ h 0]).length → cq c (at_ (d ++ [at_ h 0]) ((d ++ [at_ h 0]).length - 1)) ≤ 0 := by
      intro c hcm _
      rw [hda, Nat.add_sub_cancel, at_last]
      exact ht c (hp.subset (List.mem_cons_of_mem _ hcm))
    obtain ⟨r, hr, hrp, hrf⟩ := ih (popL h) (d ++ [at_ h 0]) k (by omega) (by rw [hda]; omega) (pop_wf hw (by omega)) (pop_heap hw hh (by omega)) (by omega) g1 g2
    refine ⟨r, ?_, ?_, hrf⟩
    · rw [heap_Down.l0]
      exact bnd (pop_eq hw (by omega) hh (by omega) k (by omega)) (ift rfl (ift (by omega) hr))
    · refine hrp.trans ?_
      rw [List.append_assoc]
      exact List.Perm.append_left d hp
theorem fall_loop (d : List S25) (hd : Wf d) (hf : Falls d) (hl : d.length ≤ 60) (m : Nat) : ∀ (i k : Nat) (left : List S25), i + m = d.length → 2 * m + 200 < k → left.Perm (d.drop i) →
    samphirelaw11_HeapDown.l1 k d left d (d.length : Int) (i : Int) = some true := by
  induction m with
  | zero =>
    intro i k left hi hk hp
    obtain ⟨k, rfl⟩ : ∃ j, k = j + 1 := ⟨k - 1, by omega⟩
    rw [samphirelaw11_HeapDown.l1]
    exact iff_ (by omega) (bnd (awake' (by omega)) rfl)
  | succ m ih =>
    intro i k left hi hk hp
    obtain ⟨k, rfl⟩ : ∃ j, k = j + 2 := ⟨k - 2, by omega⟩
    have ew : wrap64 ((i : Int) + 1) = ((i + 1 : Nat) : Int) := by unfold wrap64; omega
    have e : d.drop i = at_ d i :: d.drop (i + 1) := by
      have hi2 : i < d.length := by omega
      have e0 : at_ d i = d[i] := by unfold at_; rw [List.getD_eq_getElem?_getD, List.getElem?_eq_getElem hi2]; rfl
      rw [e0, List.getElem_cons_drop]
    rw [e] at hp
    have hmem : at_ d i ∈ left := hp.symm.subset List.mem_cons_self
    have hwp := without_perm (at_ d i) left hmem
    have hll : left.length = d.length - i := by rw [hp.length_eq, List.length_cons, List.length_drop]; omega
    have hwl : (withoutL (at_ d i) left).length + 1 = left.length := by have := hwp.length_eq; simpa using this
    have fin : samphirelaw11_HeapDown.j3 (k + 1) d left d (d.length : Int) (i : Int) false (at_ d i).f0 (at_ d i).f1 (at_ d i).f2 = some true := by
      rw [samphirelaw11_HeapDown.j3]
      refine iff_ (by decide) (bnd (without_eq left (at_ d i) (by omega) k (by omega)) (ift ?_ ?_))
      · unfold wrap64; omega
      · rw [ew]
        exact ih (i + 1) k _ (by omega) (by omega) (List.Perm.cons_inv (hwp.trans hp))
    show samphirelaw11_HeapDown.l1 ((k + 1) + 1) d left d (d.length : Int) (i : Int) = _
    rw [samphirelaw11_HeapDown.l1]
    refine ift (by omega) (ift (by omega) (ift (by omega) ?_))
    by_cases h0 : 0 < i
    · have e1 : wrap64 ((i : Int) - 1) = ((i - 1 : Nat) : Int) := by unfold wrap64; omega
      rw [e1]
      refine ift (by omega) (ift (by omega) (ift (by omega) ?_))
      rw [rd_at, rd_at]
      refine bnd (cmp_eq (at_ d (i - 1)) (at_ d i) (hd _ (at_mem (by omega))) (hd _ (at_mem (by omega))) (k + 1) (by omega)) ?_
      have h1 := hf i h0 (by omega)
      have h2 := cq_anti (at_ d (i - 1)) (at_ d i)
      rw [decide_eq_false (show ¬ cq (at_ d (i - 1)) (at_ d i) < 0 by omega)]
      exact fin
    · refine iff_ (by omega) ?_
      rw [rd_at]
      exact fin
theorem push_loop (l : List S25) (hw : Wf l) (ho : Ok l) (hl : l.length ≤ 60) (m : Nat) : ∀ (i k : Nat) (h : List S25), i + m = l.length → m + 900 < k → h.Perm (l.take i) → Heap h →
    samphirelaw11_HeapDown.l0 k l h l (l.length : Int) (i : Int) = some true := by
  induction m with
  | zero =>
    intro i k h hi hk hp hh
    obtain ⟨k, rfl⟩ : ∃ j, k = j + 1 := ⟨k - 1, by omega⟩
    rw [List.take_of_length_le (by omega)] at hp
    obtain ⟨r, hr, hrp, hrf⟩ := down_loop h.length h [] k rfl (by have := hp.length_eq; simp; omega) (wf_perm hp hw) hh (by have := hp.length_eq; omega) (fun i h0 hi => absurd hi (by simp)) (fun c hc h0 => absurd h0 (by simp))
    rw [List.nil_append] at hrp
    have hrl : r.Perm l := hrp.trans hp
    have hlen := hrl.length_eq
    rw [samphirelaw11_HeapDown.l0]
    refine iff_ (by omega) (bnd hr (ift (by omega) ?_))
    exact fall_loop r (wf_perm hrl hw) hrf (by omega) r.length 0 k l (by omega) (by omega) (by rw [List.drop_zero]; exact hrl.symm)
  | succ m ih =>
    intro i k h hi hk hp hh
    obtain ⟨k, rfl⟩ : ∃ j, k = j + 1 := ⟨k - 1, by omega⟩
    have ew : wrap64 ((i : Int) + 1) = ((i + 1 : Nat) : Int) := by unfold wrap64; omega
    have hlen := hp.length_eq
    rw [List.length_take] at hlen
    have hwh : Wf h := fun c hc => hw c (List.mem_of_mem_take (hp.subset hc))
    have hx := hw _ (at_mem (l := l) (i := i) (by omega))
    have ox := ho _ (at_mem (l := l) (i := i) (by omega))
    rw [samphirelaw11_HeapDown.l0]
    refine ift (by omega) (ift (by omega) (ift (by omega) ?_))
    rw [rd_at]
    refine bnd (push_eq (at_ l i) hwh hx (by omega) hh ox k (by omega)) (ift rfl ?_)
    rw [ew]
    refine ih (i + 1) k _ (by omega) (by omega) ?_ (push_heap hwh hx hh ox)
    have hi2 : i < l.length := by omega
    have e0 : at_ l i = l[i] := by unfold at_; rw [List.getD_eq_getElem?_getD, List.getElem?_eq_getElem hi2]; rfl
    rw [List.take_succ_eq_append_getElem hi2, ← e0]
    exact (push_perm h (at_ l i)).trans (List.Perm.append_right _ hp)
theorem heapDown (l : List S25) (hw : Wf l) (hl : l.length ≤ 9223372036854775807) : ∃ k, samphirelaw11_HeapDown.f k l = some true := by
  refine ⟨l.length + 2000, ?_⟩
  have out : ∀ k, 100 < k → samphirelaw11_HeapDown.j0 k l true = some true := by
    intro k hk
    obtain ⟨k, rfl⟩ : ∃ j, k = j + 1 := ⟨k - 1, by omega⟩
    rw [samphirelaw11_HeapDown.j0]
    exact ift rfl (bnd (awake' (by omega)) rfl)
  unfold samphirelaw11_HeapDown.f
  obtain ⟨b, hb, hb2⟩ := small_eq l (l.length + 2000) (by omega)
  refine bnd hb ?_
  cases b with
  | false => exact iff_ (by decide) (out _ (by omega))
  | true =>
    have h60 := hb2 rfl
    refine ift rfl ?_
    obtain ⟨c, hc, hc2⟩ := all_loop l hw (by omega) l.length 0 (l.length + 2000) (by omega) (by omega)
    have hc' : samphireref10_All.f (l.length + 2000) l = some c := hc
    refine bnd hc' ?_
    cases c with
    | false => exact out _ (by omega)
    | true =>
      have ho : Ok l := fun x hx => by
        obtain ⟨i, hi, rfl⟩ := List.mem_iff_getElem.1 hx
        have := hc2 rfl i (Nat.zero_le _) hi
        unfold at_ at this
        rw [List.getD_eq_getElem?_getD, List.getElem?_eq_getElem hi] at this
        exact this
      show samphirelaw11_HeapDown.j0 ((l.length + 1999) + 1) l false = some true
      rw [samphirelaw11_HeapDown.j0]
      refine iff_ (by decide) ?_
      exact push_loop l hw ho h60 l.length 0 _ [] (by omega) (by omega) (by rw [List.take_zero]) heap_nil
theorem heapDown_walk (A : Option Addr) (c : Nat) (l : List S25) (W : World) (hr : Kd.C k25 W A l.length l) (hc : l.length ≤ c) (hw : ∀ x ∈ l, wfI x) (hl : l.length ≤ 9223372036854775807) :
    Calls Try.prog 5 #[.slice A l.length c] W fun e W' => e = .returned (.bool true) ∧ Below W.heap.size W W' := by
  obtain ⟨k, hk⟩ := heapDown l hw hl
  exact samphirelaw11_HeapDown.calls k (fun k => k < W.heap.size) A c l true W (Kd.V_mk hc (Kd.C_F k25_heap hr)) hk
end Go.Proofs.Ytobdhjnaglikaaa.Pure
