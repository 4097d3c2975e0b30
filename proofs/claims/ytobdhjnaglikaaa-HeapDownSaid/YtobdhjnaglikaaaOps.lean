/- heap.Push, heap.Pop and heap.Put over lists. -/
import Derived.Test.YtobdhjnaglikaaaSift
import Derived.Test.YtobdhjnaglikaaaQx5
import Derived.Test.YtobdhjnaglikaaaQx7
namespace Go.Proofs.Ytobdhjnaglikaaa.Pure
open Go.RowKit Go.Proofs.Ytobdhjnaglikaaa.Q Go.Proofs.YtobdhjnaglikaaaW.PrintWords Go.Proofs.YtobdhjnaglikaaaW.PrintLast
set_option linter.unusedVariables false
theorem rd_at (l : List S25) (j : Nat) : rd_T25 l (j : Int) = at_ l j := by unfold rd_T25 at_; rw [Int.toNat_natCast]
theorem at_app (l m : List S25) (j : Nat) (h : j < l.length) : at_ (l ++ m) j = at_ l j := by
  unfold at_; rw [List.getD_eq_getElem?_getD, List.getD_eq_getElem?_getD, List.getElem?_append_left h]
theorem at_last (l : List S25) (x : S25) : at_ (l ++ [x]) l.length = x := by
  unfold at_; rw [List.getD_eq_getElem?_getD, List.getElem?_append_right (Nat.le_refl _), Nat.sub_self]; rfl
theorem at_take (l : List S25) (n j : Nat) (h : j < n) : at_ (l.take n) j = at_ l j := by
  unfold at_; rw [List.getD_eq_getElem?_getD, List.getD_eq_getElem?_getD, List.getElem?_take_of_lt h]
theorem clone_eq (l : List S25) (h : l.length < 100000) : api_Item_27.f l = some l := by unfold api_Item_27.f; rw [if_pos (by omega)]
theorem right_yes {l : List S25} (hw : Wf l) (hl : l.length < 100000) (h : Heap l) (k : Nat) (hk : l.length + 5 < k) : heap_Right.f k l = some true := by
  obtain ⟨b, e, hb⟩ := right_eq l hw (by omega) k hk
  rw [hb.2 h] at e
  exact e
theorem check_yes {x : S25} (h : okI x) : rank_Check.f x.f0 x.f1 x.f2 = some 0 := by
  rcases check_eq x with ⟨_, e⟩ | ⟨g, _⟩
  · exact e
  · exact absurd h g
/-- One more. -/
def pushL (h : List S25) (x : S25) : List S25 := (liftF h.length (h ++ [x]) h.length).1
theorem push_inv {h : List S25} (ho : Ordered h) (x : S25) : LiftInv (h ++ [x]) h.length := by
  refine ⟨fun j h0 hj hne => ?_, fun h0 c hc0 hc hu => ?_⟩
  · rw [List.length_append] at hj
    have : [x].length = 1 := rfl
    have hu : up j < j := by unfold up; omega
    rw [at_app _ _ _ (by omega), at_app _ _ _ (by omega)]
    exact ho j h0 (by omega)
  · rw [List.length_append] at hc
    have : [x].length = 1 := rfl
    unfold up at hu
    omega
theorem push_eq {h : List S25} (x : S25) (hw : Wf h) (hx : wfI x) (hl : h.length < 50000) (hh : Heap h) (ox : okI x) (k : Nat) (hk : 2 * h.length + 20 < k) :
    heap_Push.f k h x.f0 x.f1 x.f2 = some (pushL h x, 0) := by
  unfold heap_Push.f
  refine bnd (right_yes hw (by omega) hh k (by omega)) (ift rfl (bnd (check_yes ox) (ift rfl (bnd (clone_eq h (by omega)) (bnd rfl (ift ?_ (bnd rfl ?_)))))))
  · show h.length + 1 < _
    omega
  · have e : wrap64 (((h ++ [(⟨x.f0, x.f1, x.f2⟩ : S25)]).length : Int) - 1) = ((h.length : Nat) : Int) := by
      rw [List.length_append]
      have : [(⟨x.f0, x.f1, x.f2⟩ : S25)].length = 1 := rfl
      unfold wrap64
      omega
    rw [e]
    have hla : (h ++ [x]).length = h.length + 1 := by rw [List.length_append]; rfl
    refine bnd (lift_eq (h.length : Int) h.length (h ++ [x]) h.length k (by omega) (Nat.le_refl _) (by omega) ?_ (by omega)) rfl
    intro c hc
    rcases List.mem_append.1 hc with g | g
    · exact hw c g
    · rw [List.mem_singleton.1 g]; exact hx
theorem push_perm (h : List S25) (x : S25) : (pushL h x).Perm (h ++ [x]) := (lift_perm _ _ _ (by rw [List.length_append]; show _ < _ + 1; omega)).1
theorem app_wf {h : List S25} {x : S25} (hw : Wf h) (hx : wfI x) : Wf (h ++ [x]) := fun c hc => (List.mem_append.1 hc).elim (hw c) (fun g => by rw [List.mem_singleton.1 g]; exact hx)
theorem app_ok {h : List S25} {x : S25} (hw : Ok h) (hx : okI x) : Ok (h ++ [x]) := fun c hc => (List.mem_append.1 hc).elim (hw c) (fun g => by rw [List.mem_singleton.1 g]; exact hx)
theorem push_heap {h : List S25} {x : S25} (hw : Wf h) (hx : wfI x) (hh : Heap h) (ox : okI x) : Heap (pushL h x) := by
  obtain ⟨ho, hd⟩ := (heap_iff h).1 hh
  have hp := push_perm h x
  refine (heap_iff _).2 ⟨ok_perm hp (app_ok ho ox), ?_⟩
  exact lift_ordered _ _ _ (by rw [List.length_append]; show _ < _ + 1; omega) (Nat.le_refl _) (app_wf hw hx) (app_ok ho ox) (push_inv hd x)
theorem push_wf {h : List S25} {x : S25} (hw : Wf h) (hx : wfI x) : Wf (pushL h x) := wf_perm (push_perm h x) (app_wf hw hx)
theorem push_length (h : List S25) (x : S25) : (pushL h x).length = h.length + 1 := by rw [(push_perm h x).length_eq, List.length_append]; rfl
/-- What is left without the one on top. -/
def popL (h : List S25) : List S25 := if h.length ≤ 1 then [] else sinkF h.length ((h.take (h.length - 1)).set 0 (at_ h (h.length - 1))) 0
theorem take_last (h : List S25) (hn : 0 < h.length) : (at_ h (h.length - 1) :: h.take (h.length - 1)).Perm h := by
  have e := split_at h (h.length - 1) (by omega)
  rw [show h.length - 1 + 1 = h.length by omega, List.drop_length] at e
  have := @List.perm_middle _ (at_ h (h.length - 1)) (h.take (h.length - 1)) []
  rw [← e, List.append_nil] at this
  exact this.symm
theorem pop_out (h : List S25) (hn : 1 < h.length) : (at_ h 0 :: (h.take (h.length - 1)).set 0 (at_ h (h.length - 1))).Perm h := by
  have h1 := set_perm (h.take (h.length - 1)) 0 (at_ h (h.length - 1)) (by rw [List.length_take]; omega)
  rw [at_take _ _ _ (by omega)] at h1
  exact h1.trans (take_last h (by omega))
theorem pop_perm (h : List S25) (hn : 0 < h.length) : (at_ h 0 :: popL h).Perm h := by
  unfold popL
  by_cases h1 : h.length ≤ 1
  · rw [if_pos h1]
    have h2 := take_last h hn
    have e : h.length = 1 := by omega
    rw [e] at h2
    exact h2
  · rw [if_neg h1]
    exact (List.Perm.cons _ (sink_perm _ _ _ (by rw [List.length_set, List.length_take]; omega))).trans (pop_out h (by omega))
theorem cons_sub {x : S25} {l m : List S25} (h : (x :: l).Perm m) {p : S25 → Prop} (hm : ∀ c ∈ m, p c) : p x ∧ ∀ c ∈ l, p c := ⟨hm x (h.subset List.mem_cons_self), fun c hc => hm c (h.subset (List.mem_cons_of_mem _ hc))⟩
theorem pop_inv {h : List S25} (hn : 1 < h.length) (hd : Ordered h) : SinkInv ((h.take (h.length - 1)).set 0 (at_ h (h.length - 1))) 0 := by
  refine ⟨fun j h0 hj hu => ?_, fun h0 => absurd h0 (by omega)⟩
  rw [List.length_set, List.length_take] at hj
  have huj : up j < j := by unfold up; omega
  rw [at_set _ _ _ _ (by rw [List.length_take]; omega), at_set _ _ _ _ (by rw [List.length_take]; omega), if_neg (by omega), if_neg (by omega), at_take _ _ _ (by omega), at_take _ _ _ (by omega)]
  exact hd j h0 (by omega)
theorem pop_heap {h : List S25} (hw : Wf h) (hh : Heap h) (hn : 0 < h.length) : Heap (popL h) := by
  obtain ⟨ho, hd⟩ := (heap_iff h).1 hh
  have hp := pop_perm h hn
  refine (heap_iff _).2 ⟨(cons_sub hp (p := okI) ho).2, ?_⟩
  unfold popL
  by_cases h1 : h.length ≤ 1
  · rw [if_pos h1]; intro i h0 hi; exact absurd hi (by simp)
  · rw [if_neg h1]
    have q := pop_out h (by omega)
    exact sink_ordered _ _ _ (by rw [List.length_set, List.length_take]; omega) (by rw [List.length_set, List.length_take]; omega) (cons_sub q (p := wfI) hw).2 (cons_sub q (p := okI) ho).2 (pop_inv (by omega) hd)
theorem pop_wf {h : List S25} (hw : Wf h) (hn : 0 < h.length) : Wf (popL h) := (cons_sub (pop_perm h hn) (p := wfI) hw).2
theorem pop_length (h : List S25) (hn : 0 < h.length) : (popL h).length + 1 = h.length := by have := (pop_perm h hn).length_eq; simpa using this
theorem pop_eq {h : List S25} (hw : Wf h) (hl : h.length < 50000) (hh : Heap h) (hn : 0 < h.length) (k : Nat) (hk : 2 * h.length + 20 < k) :
    heap_Pop.f k h = some ((at_ h 0).f0, (at_ h 0).f1, (at_ h 0).f2, popL h, 0) := by
  have e : wrap64 ((h.length : Int) - 1) = ((h.length - 1 : Nat) : Int) := by unfold wrap64; omega
  have r0 : rd_T25 h 0 = at_ h 0 := rd_at h 0
  unfold heap_Pop.f
  rw [e]
  refine bnd (right_yes hw (by omega) hh k (by omega)) (ift rfl (iff_ (by omega) (ift (by omega) (ift (by omega) ?_))))
  rw [Int.toNat_natCast]
  refine bnd (clone_eq _ (by rw [List.length_take]; omega)) ?_
  have hlt : (h.take (h.length - 1)).length = h.length - 1 := by rw [List.length_take]; omega
  rw [hlt]
  by_cases h1 : h.length ≤ 1
  · refine iff_ (by omega) (ift (by omega) ?_)
    rw [r0]
    have e1 : h.length = 1 := by omega
    unfold popL
    rw [if_pos h1, e1]
    rfl
  · refine ift (by omega) (ift (by omega) (ift (by omega) ?_))
    rw [rd_at, r0]
    have q := pop_out h (by omega)
    refine bnd (sink_eq h.length ((h.take (h.length - 1)).set 0 (at_ h (h.length - 1))) 0 k (by rw [List.length_set, hlt]; omega) (by rw [List.length_set, hlt]; omega) (by rw [List.length_set, hlt]; omega) (cons_sub q (p := wfI) hw).2 (by omega)) (ift (by omega) ?_)
    unfold popL
    rw [if_neg h1]
theorem heap_nil : Heap [] := fun i hi => absurd hi (by simp)
theorem wf_nil : Wf [] := fun c hc => by cases hc
theorem pop_nil (k : Nat) (hk : 10 < k) : heap_Pop.f k [] = some (⟨#[]⟩, 0, 0, [], 3) := by
  unfold heap_Pop.f
  refine bnd (right_yes wf_nil (by simp) heap_nil k (by simp; omega)) (ift rfl (ift rfl rfl))
/-- An item put in its own place. -/
theorem put_self {h : List S25} (hw : Wf h) (hl : h.length < 50000) (hh : Heap h) (i : Nat) (hi : i < h.length) (k : Nat) (hk : 2 * h.length + 20 < k) :
    heap_Put.f k h (i : Int) (at_ h i).f0 (at_ h i).f1 (at_ h i).f2 = some (h, 0) := by
  obtain ⟨ho, hd⟩ := (heap_iff h).1 hh
  unfold heap_Put.f
  refine bnd (right_yes hw (by omega) hh k (by omega)) (ift rfl (iff_ (by omega) (iff_ (by omega) (bnd (check_yes (ho _ (at_mem hi))) (ift rfl (bnd (clone_eq h (by omega)) (ift (by omega) (ift (by omega) ?_))))))))
  rw [Int.toNat_natCast, show h.set i (⟨(at_ h i).f0, (at_ h i).f1, (at_ h i).f2⟩ : S25) = h from set_self h i hi]
  have hlift : ∀ n, liftF n h i = (h, i) := by
    intro n
    cases n with
    | zero => rfl
    | succ n =>
      rw [liftF, if_neg (fun g => ?_)]
      have := hd i g.1 hi
      omega
  have hsink : ∀ n, sinkF n h i = h := by
    intro n
    cases n with
    | zero => rfl
    | succ n =>
      rw [sinkF, if_neg (fun g => ?_)]
      obtain ⟨ku, klt⟩ := kid_up h i
      have := hd (kid h i) (by omega) g.1
      rw [ku] at this
      omega
  refine bnd (lift_eq (i : Int) h.length h i k hi (by omega) (by omega) hw (by omega)) ?_
  rw [hlift]
  refine iff_ (by simp) ?_
  refine bnd (sink_eq h.length h i k hi (by omega) (by omega) hw (by omega)) ?_
  rw [hsink]
/-- One that stands behind all comes on top. -/
theorem lift_top (n : Nat) : ∀ (l : List S25) (i : Nat), i < l.length → i ≤ n → (∀ j, j < l.length → j ≠ i → cq (at_ l j) (at_ l i) < 0) → at_ (liftF n l i).1 0 = at_ l i := by
  induction n with
  | zero =>
    intro l i hi hn h
    obtain rfl : i = 0 := by omega
    rfl
  | succ n ih =>
    intro l i hi hn h
    rw [liftF]
    by_cases h0 : 0 < i
    · have hu : up i < i := by unfold up; omega
      have hc : 0 < cq (at_ l i) (at_ l (up i)) := by have := h (up i) (by omega) (by omega); have := cq_anti (at_ l i) (at_ l (up i)); omega
      rw [if_pos ⟨h0, hc⟩]
      have A : ∀ m, at_ (sw l i (up i)) m = if m = up i then at_ l i else if m = i then at_ l (up i) else at_ l m := fun m => at_sw l i (up i) m hi (by omega)
      rw [ih (sw l i (up i)) (up i) (by rw [sw_length]; omega) (by omega) ?_, A (up i), if_pos rfl]
      intro j hj hne
      rw [sw_length] at hj
      rw [A j, A (up i), if_pos rfl, if_neg hne]
      by_cases e : j = i
      · rw [if_pos e]; exact h (up i) (by omega) (by omega)
      · rw [if_neg e]; exact h j hj e
    · rw [if_neg (fun g => h0 g.1)]
      obtain rfl : i = 0 := by omega
      rfl
end Go.Proofs.Ytobdhjnaglikaaa.Pure
