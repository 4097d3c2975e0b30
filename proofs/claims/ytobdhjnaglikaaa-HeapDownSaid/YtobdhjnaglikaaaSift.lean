/- heap.lift and heap.sink over lists: what they tell; a heap stays one; the items stay the same ones. -/
import Derived.Test.YtobdhjnaglikaaaOrd
import Derived.Test.YtobdhjnaglikaaaQx4
import Derived.Test.YtobdhjnaglikaaaQx6
namespace Go.Proofs.Ytobdhjnaglikaaa.Pure
open Go.RowKit Go.Proofs.Ytobdhjnaglikaaa.Q Go.Proofs.YtobdhjnaglikaaaW.PrintWords Go.Proofs.YtobdhjnaglikaaaW.PrintLast
set_option linter.unusedVariables false
def up (i : Nat) : Nat := (i - 1) / 2
/-- Two items exchanged. -/
def sw (l : List S25) (i j : Nat) : List S25 := (l.set i (at_ l j)).set j (at_ l i)
theorem sw_length (l : List S25) (i j : Nat) : (sw l i j).length = l.length := by unfold sw; rw [List.length_set, List.length_set]
theorem at_set (l : List S25) (i : Nat) (x : S25) (m : Nat) (hi : i < l.length) : at_ (l.set i x) m = if m = i then x else at_ l m := by
  unfold at_
  rw [List.getD_eq_getElem?_getD, List.getElem?_set]
  by_cases h : i = m
  · subst h; rw [if_pos rfl, if_pos hi, if_pos rfl]; rfl
  · rw [if_neg h, if_neg (fun e => h e.symm), List.getD_eq_getElem?_getD]
theorem at_sw (l : List S25) (i j m : Nat) (hi : i < l.length) (hj : j < l.length) : at_ (sw l i j) m = if m = j then at_ l i else if m = i then at_ l j else at_ l m := by
  unfold sw
  rw [at_set _ _ _ _ (by rw [List.length_set]; exact hj), at_set _ _ _ _ hi]
theorem set_self (l : List S25) (i : Nat) (hi : i < l.length) : l.set i (at_ l i) = l := by
  apply List.ext_getElem
  · rw [List.length_set]
  · intro n h1 h2
    rw [List.getElem_set]
    split
    · rename_i e; subst e; unfold at_; rw [List.getD_eq_getElem?_getD, List.getElem?_eq_getElem hi]; rfl
    · rfl
theorem split_at (l : List S25) (i : Nat) (hi : i < l.length) : l = l.take i ++ at_ l i :: l.drop (i + 1) := by
  have e : at_ l i = l[i] := by unfold at_; rw [List.getD_eq_getElem?_getD, List.getElem?_eq_getElem hi]; rfl
  rw [e, List.getElem_cons_drop, List.take_append_drop]
theorem set_perm (l : List S25) (i : Nat) (x : S25) (hi : i < l.length) : (at_ l i :: l.set i x).Perm (x :: l) := by
  have e : l.set i x = l.take i ++ x :: l.drop (i + 1) := List.set_eq_take_append_cons_drop.trans (by rw [if_pos hi])
  rw [e]
  have h1 : (l.take i ++ x :: l.drop (i + 1)).Perm (x :: (l.take i ++ l.drop (i + 1))) := List.perm_middle
  have h2 : (x :: l).Perm (x :: (at_ l i :: (l.take i ++ l.drop (i + 1)))) := List.Perm.cons _ (by
    have := @List.perm_middle _ (at_ l i) (l.take i) (l.drop (i + 1))
    rw [← split_at l i hi] at this
    exact this)
  exact ((List.Perm.cons _ h1).trans (List.Perm.swap _ _ _)).trans h2.symm
theorem sw_perm (l : List S25) (i j : Nat) (hi : i < l.length) (hj : j < l.length) (hne : i ≠ j) : (sw l i j).Perm l := by
  have h1 := set_perm l i (at_ l j) hi
  have h2 := set_perm (l.set i (at_ l j)) j (at_ l i) (by rw [List.length_set]; exact hj)
  rw [at_set _ _ _ _ hi, if_neg (fun e => hne e.symm)] at h2
  have h3 : (at_ l j :: sw l i j).Perm (at_ l i :: l.set i (at_ l j)) := h2
  exact List.Perm.cons_inv (h3.trans h1)
def Wf (l : List S25) : Prop := ∀ c ∈ l, wfI c
def Ok (l : List S25) : Prop := ∀ c ∈ l, okI c
theorem pos_of {c : S25} (h : wfI c) (h2 : okI c) : 0 < c.f2 := by have := h.2.2.1; have := h2.2; omega
theorem pos_at {l : List S25} (h : Wf l) (h2 : Ok l) {i : Nat} (hi : i < l.length) : 0 < (at_ l i).f2 := pos_of (h _ (at_mem hi)) (h2 _ (at_mem hi))
def Ordered (l : List S25) : Prop := ∀ i, 0 < i → i < l.length → cq (at_ l i) (at_ l (up i)) ≤ 0
theorem heap_iff (l : List S25) : Heap l ↔ Ok l ∧ Ordered l := by
  constructor
  · intro h
    refine ⟨fun c hc => ?_, fun i h0 hi => (h i hi).2 h0⟩
    obtain ⟨i, hi, rfl⟩ := List.mem_iff_getElem.1 hc
    have := (h i hi).1
    unfold at_ at this
    rw [List.getD_eq_getElem?_getD, List.getElem?_eq_getElem hi] at this
    exact this
  · rintro ⟨h1, h2⟩ i hi
    exact ⟨h1 _ (at_mem hi), fun h0 => h2 i h0 hi⟩
/-- lift. -/
def liftF : Nat → List S25 → Nat → List S25 × Nat
  | 0, l, i => (l, i)
  | n + 1, l, i => if 0 < i ∧ 0 < cq (at_ l i) (at_ l (up i)) then liftF n (sw l i (up i)) (up i) else (l, i)
theorem wf_perm {l l' : List S25} (h : l'.Perm l) (hw : Wf l) : Wf l' := fun c hc => hw c (h.subset hc)
theorem ok_perm {l l' : List S25} (h : l'.Perm l) (hw : Ok l) : Ok l' := fun c hc => hw c (h.subset hc)
theorem lift_perm (n : Nat) : ∀ (l : List S25) (i : Nat), i < l.length → (liftF n l i).1.Perm l ∧ (liftF n l i).2 ≤ i ∧ (0 < n → (liftF n l i).2 = i → (liftF n l i).1 = l ∧ (0 < i → cq (at_ l i) (at_ l (up i)) ≤ 0)) := by
  induction n with
  | zero => intro l i hi; exact ⟨List.Perm.refl _, Nat.le_refl _, fun h => absurd h (by omega)⟩
  | succ n ih =>
    intro l i hi
    rw [liftF]
    by_cases h : 0 < i ∧ 0 < cq (at_ l i) (at_ l (up i))
    · rw [if_pos h]
      have hu : up i < i := by unfold up; omega
      obtain ⟨h1, h2, _⟩ := ih (sw l i (up i)) (up i) (by rw [sw_length]; omega)
      exact ⟨h1.trans (sw_perm l i (up i) hi (by omega) (by omega)), by omega, fun _ e => by omega⟩
    · rw [if_neg h]
      exact ⟨List.Perm.refl _, Nat.le_refl _, fun _ _ => ⟨rfl, fun h0 => by
        apply Classical.byContradiction
        intro g
        exact h ⟨h0, by omega⟩⟩⟩
def LiftInv (l : List S25) (i : Nat) : Prop := (∀ j, 0 < j → j < l.length → j ≠ i → cq (at_ l j) (at_ l (up j)) ≤ 0) ∧ (0 < i → ∀ c, 0 < c → c < l.length → up c = i → cq (at_ l c) (at_ l (up i)) ≤ 0)
theorem lift_ordered (n : Nat) : ∀ (l : List S25) (i : Nat), i < l.length → i ≤ n → Wf l → Ok l → LiftInv l i → Ordered (liftF n l i).1 := by
  induction n with
  | zero =>
    intro l i hi hn hw ho h
    exact fun j h0 hj => h.1 j h0 hj (by omega)
  | succ n ih =>
    intro l i hi hn hw ho h
    rw [liftF]
    by_cases hc : 0 < i ∧ 0 < cq (at_ l i) (at_ l (up i))
    · rw [if_pos hc]
      have hu : up i < i := by have := hc.1; unfold up; omega
      have hp := sw_perm l i (up i) hi (by omega) (by omega)
      have hx : cq (at_ l (up i)) (at_ l i) ≤ 0 := by have := cq_anti (at_ l (up i)) (at_ l i); have := hc.2; omega
      have A : ∀ m, at_ (sw l i (up i)) m = if m = up i then at_ l i else if m = i then at_ l (up i) else at_ l m := fun m => at_sw l i (up i) m hi (by omega)
      have P : ∀ m, m < l.length → 0 < (at_ l m).f2 := fun m hm => pos_at hw ho hm
      refine ih _ _ (by rw [sw_length]; omega) (by omega) (wf_perm hp hw) (ok_perm hp ho) ⟨?_, ?_⟩
      · intro j h0 hj hne
        rw [sw_length] at hj
        have huj : up j < j := by unfold up; omega
        rw [A j, A (up j), if_neg hne]
        by_cases e1 : j = i
        · subst e1
          rw [if_pos rfl, if_pos rfl]; exact hx
        · rw [if_neg e1]
          by_cases e2 : up j = up i
          · rw [if_pos e2]
            have := h.1 j h0 hj e1
            rw [e2] at this
            exact cq_trans (P j hj) (P (up i) (by omega)) (P i hi) this hx
          · rw [if_neg e2]
            by_cases e3 : up j = i
            · rw [if_pos e3]; exact h.2 hc.1 j h0 hj e3
            · rw [if_neg e3]; exact h.1 j h0 hj e1
      · intro hu0 c h0 hcl hcu
        rw [sw_length] at hcl
        have huu : up (up i) < up i := by unfold up at *; omega
        have hcc : up c < c := by unfold up; omega
        rw [A c, A (up (up i)), if_neg (show ¬ c = up i by omega), if_neg (show ¬ up (up i) = up i by omega), if_neg (show ¬ up (up i) = i by omega)]
        have hpp := h.1 (up i) hu0 (by omega) (by omega)
        by_cases e1 : c = i
        · rw [if_pos e1]; exact hpp
        · rw [if_neg e1]
          have := h.1 c h0 hcl e1
          rw [hcu] at this
          exact cq_trans (P c hcl) (P (up i) (by omega)) (P _ (by omega)) this hpp
    · rw [if_neg hc]
      show Ordered l
      intro j h0 hj
      by_cases e : j = i
      · subst e
        apply Classical.byContradiction
        intro g
        exact hc ⟨h0, by omega⟩
      · exact h.1 j h0 hj e
theorem lift_eq (s : Int) (n : Nat) : ∀ (l : List S25) (i k : Nat), i < l.length → i ≤ n → l.length < 4611686018427387904 → Wf l → 2 * n + 10 < k → heap_lift.l0 k l (i : Int) s = some ((((liftF n l i).2 : Nat) : Int) != s, (liftF n l i).1) := by
  have hr : ∀ (l : List S25) (j : Nat), rd_T25 l (j : Int) = at_ l j := fun l j => by unfold rd_T25 at_; rw [Int.toNat_natCast]
  induction n with
  | zero =>
    intro l i k hi hn hl hw hk
    obtain ⟨k, rfl⟩ : ∃ j, k = j + 2 := ⟨k - 2, by omega⟩
    obtain rfl : i = 0 := by omega
    show heap_lift.l0 ((k + 1) + 1) l ((0 : Nat) : Int) s = _
    rw [heap_lift.l0]
    refine iff_ (by omega) ?_
    rw [heap_lift.j1]
    exact iff_ (by decide) rfl
  | succ n ih =>
    intro l i k hi hn hl hw hk
    obtain ⟨k, rfl⟩ : ∃ j, k = j + 2 := ⟨k - 2, by omega⟩
    show heap_lift.l0 ((k + 1) + 1) l (i : Int) s = _
    rw [heap_lift.l0, liftF]
    by_cases h0 : 0 < i
    · have hu : up i < i := by unfold up; omega
      have hup : heap_up.f (i : Int) = some ((up i : Nat) : Int) := up_eq i h0 (by omega)
      refine ift (by omega) (ift (by omega) (ift (by omega) (bnd hup (ift (by omega) (ift (by omega) ?_)))))
      rw [hr, hr]
      refine bnd (cmp_eq _ _ (hw _ (at_mem hi)) (hw _ (at_mem (by omega))) (k + 1) (by omega)) ?_
      rw [heap_lift.j1]
      by_cases hc : 0 < cq (at_ l i) (at_ l (up i))
      · rw [if_pos (show (0 < i ∧ 0 < cq (at_ l i) (at_ l (up i))) from ⟨h0, hc⟩)]
        refine ift (decide_eq_true hc) (bnd hup (bnd hup (ift (by omega) (ift (by omega) (ift (by omega) (ift (by omega) (ift (by omega) (ift (by omega) (bnd hup ?_)))))))))
        rw [hr, hr, Int.toNat_natCast, Int.toNat_natCast]
        exact ih (sw l i (up i)) (up i) k (by rw [sw_length]; omega) (by omega) (by rw [sw_length]; exact hl) (wf_perm (sw_perm l i (up i) hi (by omega) (by omega)) hw) (by omega)
      · rw [if_neg (show ¬ (0 < i ∧ 0 < cq (at_ l i) (at_ l (up i))) from fun h => hc h.2)]
        refine iff_ (by rw [decide_eq_false (show ¬ cq (at_ l i) (at_ l (up i)) > 0 from hc)]; decide) rfl
    · rw [if_neg (show ¬ (0 < i ∧ 0 < cq (at_ l i) (at_ l (up i))) from fun h => h0 h.1)]
      refine iff_ (by omega) ?_
      rw [heap_lift.j1]
      exact iff_ (by decide) rfl
/-- The greater one of what stands below. -/
def kid (l : List S25) (i : Nat) : Nat := if 2 * i + 2 < l.length ∧ 0 < cq (at_ l (2 * i + 2)) (at_ l (2 * i + 1)) then 2 * i + 2 else 2 * i + 1
def sinkF : Nat → List S25 → Nat → List S25
  | 0, l, _ => l
  | n + 1, l, i => if kid l i < l.length ∧ 0 < cq (at_ l (kid l i)) (at_ l i) then sinkF n (sw l i (kid l i)) (kid l i) else l
theorem kid_up (l : List S25) (i : Nat) : up (kid l i) = i ∧ i < kid l i := by unfold kid up; split <;> omega
theorem kid_max {l : List S25} (hw : Wf l) (ho : Ok l) (i c : Nat) (h0 : 0 < c) (hc : c < l.length) (hu : up c = i) : kid l i < l.length ∧ cq (at_ l c) (at_ l (kid l i)) ≤ 0 := by
  unfold kid
  have hcc : c = 2 * i + 1 ∨ c = 2 * i + 2 := by unfold up at hu; omega
  split
  · rename_i h
    refine ⟨h.1, ?_⟩
    rcases hcc with rfl | rfl
    · have := cq_anti (at_ l (2 * i + 1)) (at_ l (2 * i + 2)); omega
    · rw [cq_self]; decide
  · rename_i h
    rcases hcc with rfl | rfl
    · exact ⟨hc, by rw [cq_self]; decide⟩
    · refine ⟨by omega, ?_⟩
      apply Classical.byContradiction
      intro g
      exact h ⟨hc, by omega⟩
theorem sink_perm (n : Nat) : ∀ (l : List S25) (i : Nat), i < l.length → (sinkF n l i).Perm l := by
  induction n with
  | zero => intro l i hi; exact List.Perm.refl _
  | succ n ih =>
    intro l i hi
    rw [sinkF]
    by_cases h : kid l i < l.length ∧ 0 < cq (at_ l (kid l i)) (at_ l i)
    · rw [if_pos h]
      have := (kid_up l i).2
      exact (ih _ _ (by rw [sw_length]; exact h.1)).trans (sw_perm l i (kid l i) hi h.1 (by omega))
    · rw [if_neg h]
def SinkInv (l : List S25) (i : Nat) : Prop := (∀ j, 0 < j → j < l.length → up j ≠ i → cq (at_ l j) (at_ l (up j)) ≤ 0) ∧ (0 < i → ∀ c, 0 < c → c < l.length → up c = i → cq (at_ l c) (at_ l (up i)) ≤ 0)
theorem sink_ordered (n : Nat) : ∀ (l : List S25) (i : Nat), i < l.length → l.length ≤ n + i → Wf l → Ok l → SinkInv l i → Ordered (sinkF n l i) := by
  induction n with
  | zero => intro l i hi hn; omega
  | succ n ih =>
    intro l i hi hn hw ho h
    rw [sinkF]
    obtain ⟨ku, klt⟩ := kid_up l i
    by_cases hc : kid l i < l.length ∧ 0 < cq (at_ l (kid l i)) (at_ l i)
    · rw [if_pos hc]
      have hx : cq (at_ l i) (at_ l (kid l i)) ≤ 0 := by have := cq_anti (at_ l i) (at_ l (kid l i)); have := hc.2; omega
      have hmax := fun c h0 hcl hu => (kid_max hw ho i c h0 hcl hu).2
      generalize kid l i = q at *
      have hp := sw_perm l i q hi hc.1 (by omega)
      have A : ∀ m, at_ (sw l i q) m = if m = q then at_ l i else if m = i then at_ l q else at_ l m := fun m => at_sw l i q m hi hc.1
      refine ih _ _ (by rw [sw_length]; exact hc.1) (by rw [sw_length]; omega) (wf_perm hp hw) (ok_perm hp ho) ⟨?_, ?_⟩
      · intro j h0 hj hne
        rw [sw_length] at hj
        have huj : up j < j := by unfold up; omega
        rw [A j, A (up j), if_neg hne]
        by_cases e1 : j = q
        · subst e1
          rw [if_pos rfl, if_pos ku]; exact hx
        · rw [if_neg e1]
          by_cases e2 : j = i
          · subst e2
            rw [if_pos rfl, if_neg (by omega)]
            exact h.2 h0 q (by omega) hc.1 ku
          · rw [if_neg e2]
            by_cases e3 : up j = i
            · rw [if_pos e3]; exact hmax j h0 hj e3
            · rw [if_neg e3]; exact h.1 j h0 hj e3
      · intro _ c h0 hcl hcu
        rw [sw_length] at hcl
        have hcc : up c < c := by unfold up; omega
        rw [A c, A (up q), ku, if_neg (by omega), if_neg (by omega), if_neg (by omega), if_pos rfl]
        have := h.1 c h0 hcl (by omega)
        rw [hcu] at this
        exact this
    · rw [if_neg hc]
      intro j h0 hj
      by_cases e : up j = i
      · obtain ⟨g1, g2⟩ := kid_max hw ho i j h0 hj e
        rw [e]
        have g3 : cq (at_ l (kid l i)) (at_ l i) ≤ 0 := by
          apply Classical.byContradiction
          intro g
          exact hc ⟨g1, by omega⟩
        exact cq_trans (pos_at hw ho hj) (pos_at hw ho g1) (pos_at hw ho hi) g2 g3
      · exact h.1 j h0 hj e
theorem sink_eq (n : Nat) : ∀ (l : List S25) (i k : Nat), i < l.length → l.length ≤ n + i → l.length < 2305843009213693952 → Wf l → 2 * n + 10 < k → heap_sink.l0 k l (i : Int) = some (sinkF n l i) := by
  have hr : ∀ (l : List S25) (j : Nat), rd_T25 l (j : Int) = at_ l j := fun l j => by unfold rd_T25 at_; rw [Int.toNat_natCast]
  induction n with
  | zero => intro l i k hi hn; omega
  | succ n ih =>
    intro l i k hi hn hl hw hk
    obtain ⟨k, rfl⟩ : ∃ j, k = j + 2 := ⟨k - 2, by omega⟩
    show heap_sink.l0 ((k + 1) + 1) l (i : Int) = _
    have e1 : wrap64 (wrap64 (2 * (i : Int)) + 1) = ((2 * i + 1 : Nat) : Int) := by
      have : wrap64 (2 * (i : Int)) = ((2 * i : Nat) : Int) := by unfold wrap64; omega
      rw [this]; unfold wrap64; omega
    have e2 : wrap64 (((2 * i + 1 : Nat) : Int) + 1) = ((2 * i + 2 : Nat) : Int) := by unfold wrap64; omega
    rw [heap_sink.l0, e1, e2, sinkF]
    have body : ∀ (b : Bool) (q : Nat), kid l i = q → (b = true → q = 2 * i + 2) → (b = false → q = 2 * i + 1) → heap_sink.j1 (k + 1) l (i : Int) ((2 * i + 1 : Nat) : Int) b = some (if kid l i < l.length ∧ 0 < cq (at_ l (kid l i)) (at_ l i) then sinkF n (sw l i (kid l i)) (kid l i) else l) := by
      intro b q hq hb1 hb2
      have hlt : i < q := by have := (kid_up l i).2; omega
      rw [hq]
      have fin : (hql : q < l.length) → ((rank_Cmp.f k (at_ l q).f0 (at_ l q).f1 (at_ l q).f2 (at_ l i).f0 (at_ l i).f1 (at_ l i).f2).bind fun t => if t ≤ 0 then some l else heap_sink.l0 k ((l.set i (⟨(at_ l q).f0, (at_ l q).f1, (at_ l q).f2⟩ : S25)).set q (⟨(at_ l i).f0, (at_ l i).f1, (at_ l i).f2⟩ : S25)) (q : Int)) = some (if q < l.length ∧ 0 < cq (at_ l q) (at_ l i) then sinkF n (sw l i q) q else l) := by
        intro hql
        refine bnd (cmp_eq _ _ (hw _ (at_mem hql)) (hw _ (at_mem hi)) k (by omega)) ?_
        by_cases hc : cq (at_ l q) (at_ l i) ≤ 0
        · rw [if_pos hc, if_neg (show ¬ (q < l.length ∧ 0 < cq (at_ l q) (at_ l i)) by omega)]
        · rw [if_neg hc, if_pos (show (q < l.length ∧ 0 < cq (at_ l q) (at_ l i)) from ⟨hql, by omega⟩)]
          exact ih (sw l i q) q k (by rw [sw_length]; exact hql) (by rw [sw_length]; omega) (by rw [sw_length]; exact hl) (wf_perm (sw_perm l i q hi hql (by omega)) hw) (by omega)
      rw [heap_sink.j1]
      cases b with
      | true =>
        have hqq := hb1 rfl
        refine ift rfl ?_
        rw [e2, ← hqq]
        by_cases hql : q < l.length
        · refine iff_ (by omega) (ift (by omega) (ift (by omega) (ift (by omega) (ift (by omega) ?_))))
          rw [hr, hr, Int.toNat_natCast, Int.toNat_natCast]
          exact fin hql
        · rw [if_neg (show ¬ (q < l.length ∧ 0 < cq (at_ l q) (at_ l i)) from fun h => hql h.1)]
          exact ift (by omega) rfl
      | false =>
        have hqq := hb2 rfl
        refine iff_ (by decide) ?_
        rw [← hqq]
        by_cases hql : q < l.length
        · refine iff_ (by omega) (ift (by omega) (ift (by omega) (ift (by omega) (ift (by omega) ?_))))
          rw [hr, hr, Int.toNat_natCast, Int.toNat_natCast]
          exact fin hql
        · rw [if_neg (show ¬ (q < l.length ∧ 0 < cq (at_ l q) (at_ l i)) from fun h => hql h.1)]
          exact ift (by omega) rfl
    by_cases h2 : 2 * i + 2 < l.length
    · refine ift (by omega) (ift (by omega) (ift (by omega) (ift (by omega) ?_)))
      rw [hr, hr]
      refine bnd (cmp_eq _ _ (hw _ (at_mem h2)) (hw _ (at_mem (by omega))) (k + 1) (by omega)) ?_
      by_cases hc : 0 < cq (at_ l (2 * i + 2)) (at_ l (2 * i + 1))
      · rw [decide_eq_true (show cq (at_ l (2 * i + 2)) (at_ l (2 * i + 1)) > 0 from hc)]
        exact body true _ rfl (fun _ => by unfold kid; rw [if_pos ⟨h2, hc⟩]) (fun h => by cases h)
      · rw [decide_eq_false (show ¬ cq (at_ l (2 * i + 2)) (at_ l (2 * i + 1)) > 0 from hc)]
        exact body false _ rfl (fun h => by cases h) (fun _ => by unfold kid; rw [if_neg (fun h => hc h.2)])
    · refine iff_ (by omega) ?_
      exact body false _ rfl (fun h => by cases h) (fun _ => by unfold kid; rw [if_neg (fun h => h2 h.1)])
end Go.Proofs.Ytobdhjnaglikaaa.Pure
