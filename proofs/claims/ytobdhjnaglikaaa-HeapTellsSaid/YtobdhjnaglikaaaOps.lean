import Derived.Test.YtobdhjnaglikaaaSift
import Derived.Test.YtobdhjnaglikaaaQx5
import Derived.Test.YtobdhjnaglikaaaQx7
namespace Go.Proofs.Ytobdhjnaglikaaa.Pure
open Go.RowKit Go.Proofs.Ytobdhjnaglikaaa.Q Go.Proofs.YtobdhjnaglikaaaW.PrintWords Go.Proofs.YtobdhjnaglikaaaW.PrintLast
set_option linter.unusedVariables false
theorem rd_at (l : List S25) (j : Nat) : rd_T25 l (j : Int) = at_ l j := by unfold rd_T25 at_; rw [Int.toNat_natCast]
theorem at_take (l : List S25) (n j : Nat) (h : j < n) : at_ (l.take n) j = at_ l j := by
 unfold at_; rw [List.getD_eq_getElem?_getD, List.getD_eq_getElem?_getD, List.getElem?_take_of_lt h]
theorem clone_eq (l : List S25) (h : l.length < 100000) : api_Item_27.f l = some l := by unfold api_Item_27.f; rw [if_pos (by omega)]
theorem right_yes {l : List S25} (hw : Wf l) (hl : l.length < 100000) (h : Heap l) (k : Nat) (hk : l.length + 5 < k) : heap_Right.f k l = some true := by
 obtain ⟨b, e, hb⟩ := right_eq l hw (by omega) k hk
 rw [hb.2 h] at e
 exact e
theorem check_yes {x : S25} (h : okI x) : rank_Check.f x.f0 x.f1 x.f2 = some 0 := by
 rcases check_eq x with ⟨_, e⟩ | ⟨g, _⟩
 ·
  exact e
 ·
  exact absurd h g
def pushL (h : List S25) (x : S25) : List S25 := (liftF h.length (h ++ [x]) h.length).1
theorem push_eq {h : List S25} (x : S25) (hw : Wf h) (hx : wfI x) (hl : h.length < 50000) (hh : Heap h) (ox : okI x) (k : Nat) (hk : 2 * h.length + 20 < k) :
  heap_Push.f k h x.f0 x.f1 x.f2 = some (pushL h x, 0) := by
 unfold heap_Push.f
 refine bnd (right_yes hw (by omega) hh k (by omega)) (ift rfl (bnd (check_yes ox) (ift rfl (bnd (clone_eq h (by omega)) (bnd rfl (ift ?_ (bnd rfl ?_)))))))
 ·
  show h.length + 1 < _
  omega
 ·
  have e : wrap64 (((h ++ [(⟨x.f0, x.f1, x.f2⟩ : S25)]).length : Int) - 1) = ((h.length : Nat) : Int) := by
   rw [List.length_append]
   have : [(⟨x.f0, x.f1, x.f2⟩ : S25)].length = 1 := rfl
   unfold wrap64
   omega
  rw [e]
  have hla : (h ++ [x]).length = h.length + 1 := by rw [List.length_append]; rfl
  refine bnd (lift_eq (h.length : Int) h.length (h ++ [x]) h.length k (by omega) (Nat.le_refl _) (by omega) ?_ (by omega)) rfl
  intro c hc
  rcases List.mem_append.1 hc with g | g
  ·
   exact hw c g
  ·
   rw [List.mem_singleton.1 g]; exact hx
theorem push_perm (h : List S25) (x : S25) : (pushL h x).Perm (h ++ [x]) := (lift_perm _ _ _ (by rw [List.length_append]; show _ < _ + 1; omega)).1
theorem app_wf {h : List S25} {x : S25} (hw : Wf h) (hx : wfI x) : Wf (h ++ [x]) := fun c hc => (List.mem_append.1 hc).elim (hw c) (fun g => by rw [List.mem_singleton.1 g]; exact hx)
theorem push_length (h : List S25) (x : S25) : (pushL h x).length = h.length + 1 := by rw [(push_perm h x).length_eq, List.length_append]; rfl
def popL (h : List S25) : List S25 := if h.length ≤ 1 then [] else sinkF h.length ((h.take (h.length - 1)).set 0 (at_ h (h.length - 1))) 0
theorem take_last (h : List S25) (hn : 0 < h.length) : (at_ h (h.length - 1) :: h.take (h.length - 1)).Perm h := by
 have e := split_at h (h.length - 1) (by omega)
 rw [show h.length - 1 + 1 = h.length by omega, List.drop_length] at e
 have := @List.perm_middle _ (at_ h (h.length - 1)) (h.take (h.length - 1)) []
 rw [← e, List.append_nil] at this
 exact this.symm
theorem pop_out (h : List S25) (hn : 1 < h.length) : (at_ h 0 :: (h.take (h.length - 1)).set 0 (at_ h (h.length - 1))).Perm h := by
 have h1 := set_perm (h.take (h.length - 1)) 0 (at_ h (h.length - 1)) (by rw [List.length_take]; omega)
 rw [at_take _ _ _ (by omega)] at h1
 exact h1.trans (take_last h (by omega))
theorem pop_perm (h : List S25) (hn : 0 < h.length) : (at_ h 0 :: popL h).Perm h := by
 unfold popL
 by_cases h1 : h.length ≤ 1
 ·
  rw [if_pos h1]
  have h2 := take_last h hn
  have e : h.length = 1 := by omega
  rw [e] at h2
  exact h2
 ·
  rw [if_neg h1]
  exact (List.Perm.cons _ (sink_perm _ _ _ (by rw [List.length_set, List.length_take]; omega))).trans (pop_out h (by omega))
theorem cons_sub {x : S25} {l m : List S25} (h : (x :: l).Perm m) {p : S25 → Prop} (hm : ∀ c ∈ m, p c) : p x ∧ ∀ c ∈ l, p c := ⟨hm x (h.subset List.mem_cons_self), fun c hc => hm c (h.subset (List.mem_cons_of_mem _ hc))⟩
theorem pop_length (h : List S25) (hn : 0 < h.length) : (popL h).length + 1 = h.length := by have := (pop_perm h hn).length_eq; simpa using this
theorem pop_eq {h : List S25} (hw : Wf h) (hl : h.length < 50000) (hh : Heap h) (hn : 0 < h.length) (k : Nat) (hk : 2 * h.length + 20 < k) :
  heap_Pop.f k h = some ((at_ h 0).f0, (at_ h 0).f1, (at_ h 0).f2, popL h, 0) := by
 have e : wrap64 ((h.length : Int) - 1) = ((h.length - 1 : Nat) : Int) := by unfold wrap64; omega
 have r0 : rd_T25 h 0 = at_ h 0 := rd_at h 0
 unfold heap_Pop.f
 rw [e]
 refine bnd (right_yes hw (by omega) hh k (by omega)) (ift rfl (iff_ (by omega) (ift (by omega) (ift (by omega) ?_))))
 rw [Int.toNat_natCast]
 refine bnd (clone_eq _ (by rw [List.length_take]; omega)) ?_
 have hlt : (h.take (h.length - 1)).length = h.length - 1 := by rw [List.length_take]; omega
 rw [hlt]
 by_cases h1 : h.length ≤ 1
 ·
  refine iff_ (by omega) (ift (by omega) ?_)
  rw [r0]
  have e1 : h.length = 1 := by omega
  unfold popL
  rw [if_pos h1, e1]
  rfl
 ·
  refine ift (by omega) (ift (by omega) (ift (by omega) ?_))
  rw [rd_at, r0]
  have q := pop_out h (by omega)
  refine bnd (sink_eq h.length ((h.take (h.length - 1)).set 0 (at_ h (h.length - 1))) 0 k (by rw [List.length_set, hlt]; omega) (by rw [List.length_set, hlt]; omega) (by rw [List.length_set, hlt]; omega) (cons_sub q (p := wfI) hw).2 (by omega)) (ift (by omega) ?_)
  unfold popL
  rw [if_neg h1]
theorem heap_nil : Heap [] := fun i hi => absurd hi (by simp)
theorem wf_nil : Wf [] := fun c hc => by cases hc
theorem pop_nil (k : Nat) (hk : 10 < k) : heap_Pop.f k [] = some (⟨#[]⟩, 0, 0, [], 3) := by
 unfold heap_Pop.f
 refine bnd (right_yes wf_nil (by simp) heap_nil k (by simp; omega)) (ift rfl (ift rfl rfl))
end Go.Proofs.Ytobdhjnaglikaaa.Pure
