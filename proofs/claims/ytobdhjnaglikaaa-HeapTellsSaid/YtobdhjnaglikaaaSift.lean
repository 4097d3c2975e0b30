import Derived.Test.YtobdhjnaglikaaaOrd
import Derived.Test.YtobdhjnaglikaaaQx4
import Derived.Test.YtobdhjnaglikaaaQx6
namespace Go.Proofs.Ytobdhjnaglikaaa.Pure
open Go.RowKit Go.Proofs.Ytobdhjnaglikaaa.Q Go.Proofs.YtobdhjnaglikaaaW.PrintWords Go.Proofs.YtobdhjnaglikaaaW.PrintLast
set_option linter.unusedVariables false
def up (i : Nat) : Nat := (i - 1) / 2
def sw (l : List S25) (i j : Nat) : List S25 := (l.set i (at_ l j)).set j (at_ l i)
theorem sw_length (l : List S25) (i j : Nat) : (sw l i j).length = l.length := by unfold sw; rw [List.length_set, List.length_set]
theorem at_set (l : List S25) (i : Nat) (x : S25) (m : Nat) (hi : i < l.length) : at_ (l.set i x) m = if m = i then x else at_ l m := by
 unfold at_
 rw [List.getD_eq_getElem?_getD, List.getElem?_set]
 by_cases h : i = m
 ·
  subst h; rw [if_pos rfl, if_pos hi, if_pos rfl]; rfl
 ·
  rw [if_neg h, if_neg (fun e => h e.symm), List.getD_eq_getElem?_getD]
theorem split_at (l : List S25) (i : Nat) (hi : i < l.length) : l = l.take i ++ at_ l i :: l.drop (i + 1) := by
 have e : at_ l i = l[i] := by unfold at_; rw [List.getD_eq_getElem?_getD, List.getElem?_eq_getElem hi]; rfl
 rw [e, List.getElem_cons_drop, List.take_append_drop]
theorem set_perm (l : List S25) (i : Nat) (x : S25) (hi : i < l.length) : (at_ l i :: l.set i x).Perm (x :: l) := by
 have e : l.set i x = l.take i ++ x :: l.drop (i + 1) := List.set_eq_take_append_cons_drop.trans (by rw [if_pos hi])
 rw [e]
 have h1 : (l.take i ++ x :: l.drop (i + 1)).Perm (x :: (l.take i ++ l.drop (i + 1))) := List.perm_middle
 have h2 : (x :: l).Perm (x :: (at_ l i :: (l.take i ++ l.drop (i + 1)))) := List.Perm.cons _ (by
  have := @List.perm_middle _ (at_ l i) (l.take i) (l.drop (i + 1))
  rw [← split_at l i hi] at this
  exact this)
 exact ((List.Perm.cons _ h1).trans (List.Perm.swap _ _ _)).trans h2.symm
theorem sw_perm (l : List S25) (i j : Nat) (hi : i < l.length) (hj : j < l.length) (hne : i ≠ j) : (sw l i j).Perm l := by
 have h1 := set_perm l i (at_ l j) hi
 have h2 := set_perm (l.set i (at_ l j)) j (at_ l i) (by rw [List.length_set]; exact hj)
 rw [at_set _ _ _ _ hi, if_neg (fun e => hne e.symm)] at h2
 have h3 : (at_ l j :: sw l i j).Perm (at_ l i :: l.set i (at_ l j)) := h2
 exact List.Perm.cons_inv (h3.trans h1)
def Wf (l : List S25) : Prop := ∀ c ∈ l, wfI c
def Ok (l : List S25) : Prop := ∀ c ∈ l, okI c
def Ordered (l : List S25) : Prop := ∀ i, 0 < i → i < l.length → cq (at_ l i) (at_ l (up i)) ≤ 0
theorem heap_iff (l : List S25) : Heap l ↔ Ok l ∧ Ordered l := by
 constructor
 ·
  intro h
  refine ⟨fun c hc => ?_, fun i h0 hi => (h i hi).2 h0⟩
  obtain ⟨i, hi, rfl⟩ := List.mem_iff_getElem.1 hc
  have := (h i hi).1
  unfold at_ at this
  rw [List.getD_eq_getElem?_getD, List.getElem?_eq_getElem hi] at this
  exact this
 ·
  rintro ⟨h1, h2⟩ i hi
  exact ⟨h1 _ (at_mem hi), fun h0 => h2 i h0 hi⟩
def liftF : Nat → List S25 → Nat → List S25 × Nat
 | 0, l, i => (l, i)
 | n + 1, l, i => if 0 < i ∧ 0 < cq (at_ l i) (at_ l (up i)) then liftF n (sw l i (up i)) (up i) else (l, i)
theorem wf_perm {l l' : List S25} (h : l'.Perm l) (hw : Wf l) : Wf l' := fun c hc => hw c (h.subset hc)
theorem lift_perm (n : Nat) : ∀ (l : List S25) (i : Nat), i < l.length → (liftF n l i).1.Perm l ∧ (liftF n l i).2 ≤ i ∧ (0 < n → (liftF n l i).2 = i → (liftF n l i).1 = l ∧ (0 < i → cq (at_ l i) (at_ l (up i)) ≤ 0)) := by
 induction n with
 | zero => intro l i hi; exact ⟨List.Perm.refl _, Nat.le_refl _, fun h => absurd h (by omega)⟩
 | succ n ih =>
  intro l i hi
  rw [liftF]
  by_cases h : 0 < i ∧ 0 < cq (at_ l i) (at_ l (up i))
  ·
   rw [if_pos h]
   have hu : up i < i := by unfold up; omega
   obtain ⟨h1, h2, _⟩ := ih (sw l i (up i)) (up i) (by rw [sw_length]; omega)
   exact ⟨h1.trans (sw_perm l i (up i) hi (by omega) (by omega)), by omega, fun _ e => by omega⟩
  ·
   rw [if_neg h]
   exact ⟨List.Perm.refl _, Nat.le_refl _, fun _ _ => ⟨rfl, fun h0 => by
    apply Classical.byContradiction
    intro g
    exact h ⟨h0, by omega⟩⟩⟩
theorem lift_eq (s : Int) (n : Nat) : ∀ (l : List S25) (i k : Nat), i < l.length → i ≤ n → l.length < 4611686018427387904 → Wf l → 2 * n + 10 < k → heap_lift.l0 k l (i : Int) s = some ((((liftF n l i).2 : Nat) : Int) != s, (liftF n l i).1) := by
 have hr : ∀ (l : List S25) (j : Nat), rd_T25 l (j : Int) = at_ l j := fun l j => by unfold rd_T25 at_; rw [Int.toNat_natCast]
 induction n with
 | zero =>
  intro l i k hi hn hl hw hk
  obtain ⟨k, rfl⟩ : ∃ j, k = j + 2 := ⟨k - 2, by omega⟩
  obtain rfl : i = 0 := by omega
  show heap_lift.l0 ((k + 1) + 1) l ((0 : Nat) : Int) s = _
  rw [heap_lift.l0]
  refine iff_ (by omega) ?_
  rw [heap_lift.j1]
  exact iff_ (by decide) rfl
 | succ n ih =>
  intro l i k hi hn hl hw hk
  obtain ⟨k, rfl⟩ : ∃ j, k = j + 2 := ⟨k - 2, by omega⟩
  show heap_lift.l0 ((k + 1) + 1) l (i : Int) s = _
  rw [heap_lift.l0, liftF]
  by_cases h0 : 0 < i
  ·
   have hu : up i < i := by unfold up; omega
   have hup : heap_up.f (i : Int) = some ((up i : Nat) : Int) := up_eq i h0 (by omega)
   refine ift (by omega) (ift (by omega) (ift (by omega) (bnd hup (ift (by omega) (ift (by omega) ?_)))))
   rw [hr, hr]
   refine bnd (cmp_eq _ _ (hw _ (at_mem hi)) (hw _ (at_mem (by omega))) (k + 1) (by omega)) ?_
   rw [heap_lift.j1]
   by_cases hc : 0 < cq (at_ l i) (at_ l (up i))
   ·
    rw [if_pos (show (0 < i ∧ 0 < cq (at_ l i) (at_ l (up i))) from ⟨h0, hc⟩)]
    refine ift (decide_eq_true hc) (bnd hup (bnd hup (ift (by omega) (ift (by omega) (ift (by omega) (ift (by omega) (ift (by omega) (ift (by omega) (bnd hup ?_)))))))))
    rw [hr, hr, Int.toNat_natCast, Int.toNat_natCast]
    exact ih (sw l i (up i)) (up i) k (by rw [sw_length]; omega) (by omega) (by rw [sw_length]; exact hl) (wf_perm (sw_perm l i (up i) hi (by omega) (by omega)) hw) (by omega)
   ·
    rw [if_neg (show ¬ (0 < i ∧ 0 < cq (at_ l i) (at_ l (up i))) from fun h => hc h.2)]
    refine iff_ (by rw [decide_eq_false (show ¬ cq (at_ l i) (at_ l (up i)) > 0 from hc)]; decide) rfl
  ·
   rw [if_neg (show ¬ (0 < i ∧ 0 < cq (at_ l i) (at_ l (up i))) from fun h => h0 h.1)]
   refine iff_ (by omega) ?_
   rw [heap_lift.j1]
   exact iff_ (by decide) rfl
def kid (l : List S25) (i : Nat) : Nat := if 2 * i + 2 < l.length ∧ 0 < cq (at_ l (2 * i + 2)) (at_ l (2 * i + 1)) then 2 * i + 2 else 2 * i + 1
def sinkF : Nat → List S25 → Nat → List S25
 | 0, l, _ => l
 | n + 1, l, i => if kid l i < l.length ∧ 0 < cq (at_ l (kid l i)) (at_ l i) then sinkF n (sw l i (kid l i)) (kid l i) else l
theorem kid_up (l : List S25) (i : Nat) : up (kid l i) = i ∧ i < kid l i := by unfold kid up; split <;> omega
theorem sink_perm (n : Nat) : ∀ (l : List S25) (i : Nat), i < l.length → (sinkF n l i).Perm l := by
 induction n with
 | zero => intro l i hi; exact List.Perm.refl _
 | succ n ih =>
  intro l i hi
  rw [sinkF]
  by_cases h : kid l i < l.length ∧ 0 < cq (at_ l (kid l i)) (at_ l i)
  ·
   rw [if_pos h]
   have := (kid_up l i).2
   exact (ih _ _ (by rw [sw_length]; exact h.1)).trans (sw_perm l i (kid l i) hi h.1 (by omega))
  ·
   rw [if_neg h]
theorem sink_eq (n : Nat) : ∀ (l : List S25) (i k : Nat), i < l.length → l.length ≤ n + i → l.length < 2305843009213693952 → Wf l → 2 * n + 10 < k → heap_sink.l0 k l (i : Int) = some (sinkF n l i) := by
 have hr : ∀ (l : List S25) (j : Nat), rd_T25 l (j : Int) = at_ l j := fun l j => by unfold rd_T25 at_; rw [Int.toNat_natCast]
 induction n with
 | zero => intro l i k hi hn; omega
 | succ n ih =>
  intro l i k hi hn hl hw hk
  obtain ⟨k, rfl⟩ : ∃ j, k = j + 2 := ⟨k - 2, by omega⟩
  show heap_sink.l0 ((k + 1) + 1) l (i : Int) = _
  have e1 : wrap64 (wrap64 (2 * (i : Int)) + 1) = ((2 * i + 1 : Nat) : Int) := by
   have : wrap64 (2 * (i : Int)) = ((2 * i : Nat) : Int) := by unfold wrap64; omega
   rw [this]; unfold wrap64; omega
  have e2 : wrap64 (((2 * i + 1 : Nat) : Int) + 1) = ((2 * i + 2 : Nat) : Int) := by unfold wrap64; omega
  rw [heap_sink.l0, e1, e2, sinkF]
  have body : ∀ (b : Bool) (q : Nat), kid l i = q → (b = true → q = 2 * i + 2) → (b = false → q = 2 * i + 1) → heap_sink.j1 (k + 1) l (i : Int) ((2 * i + 1 : Nat) : Int) b = some (if kid l i < l.length ∧ 0 < cq (at_ l (kid l i)) (at_ l i) then sinkF n (sw l i (kid l i)) (kid l i) else l) := by
   intro b q hq hb1 hb2
   have hlt : i < q := by have := (kid_up l i).2; omega
   rw [hq]
   have fin : (hql : q < l.length) → ((rank_Cmp.f k (at_ l q).f0 (at_ l q).f1 (at_ l q).f2 (at_ l i).f0 (at_ l i).f1 (at_ l i).f2).bind fun t => if t ≤ 0 then some l else heap_sink.l0 k ((l.set i (⟨(at_ l q).f0, (at_ l q).f1, (at_ l q).f2⟩ : S25)).set q (⟨(at_ l i).f0, (at_ l i).f1, (at_ l i).f2⟩ : S25)) (q : Int)) = some (if q < l.length ∧ 0 < cq (at_ l q) (at_ l i) then sinkF n (sw l i q) q else l) := by
    intro hql
    refine bnd (cmp_eq _ _ (hw _ (at_mem hql)) (hw _ (at_mem hi)) k (by omega)) ?_
    by_cases hc : cq (at_ l q) (at_ l i) ≤ 0
    ·
     rw [if_pos hc, if_neg (show ¬ (q < l.length ∧ 0 < cq (at_ l q) (at_ l i)) by omega)]
    ·
     rw [if_neg hc, if_pos (show (q < l.length ∧ 0 < cq (at_ l q) (at_ l i)) from ⟨hql, by omega⟩)]
     exact ih (sw l i q) q k (by rw [sw_length]; exact hql) (by rw [sw_length]; omega) (by rw [sw_length]; exact hl) (wf_perm (sw_perm l i q hi hql (by omega)) hw) (by omega)
   rw [heap_sink.j1]
   cases b with
   | true =>
    have hqq := hb1 rfl
    refine ift rfl ?_
    rw [e2, ← hqq]
    by_cases hql : q < l.length
    ·
     refine iff_ (by omega) (ift (by omega) (ift (by omega) (ift (by omega) (ift (by omega) ?_))))
     rw [hr, hr, Int.toNat_natCast, Int.toNat_natCast]
     exact fin hql
    ·
     rw [if_neg (show ¬ (q < l.length ∧ 0 < cq (at_ l q) (at_ l i)) from fun h => hql h.1)]
     exact ift (by omega) rfl
   | false =>
    have hqq := hb2 rfl
    refine iff_ (by decide) ?_
    rw [← hqq]
    by_cases hql : q < l.length
    ·
     refine iff_ (by omega) (ift (by omega) (ift (by omega) (ift (by omega) (ift (by omega) ?_))))
     rw [hr, hr, Int.toNat_natCast, Int.toNat_natCast]
     exact fin hql
    ·
     rw [if_neg (show ¬ (q < l.length ∧ 0 < cq (at_ l q) (at_ l i)) from fun h => hql h.1)]
     exact ift (by omega) rfl
  by_cases h2 : 2 * i + 2 < l.length
  ·
   refine ift (by omega) (ift (by omega) (ift (by omega) (ift (by omega) ?_)))
   rw [hr, hr]
   refine bnd (cmp_eq _ _ (hw _ (at_mem h2)) (hw _ (at_mem (by omega))) (k + 1) (by omega)) ?_
   by_cases hc : 0 < cq (at_ l (2 * i + 2)) (at_ l (2 * i + 1))
   ·
    rw [decide_eq_true (show cq (at_ l (2 * i + 2)) (at_ l (2 * i + 1)) > 0 from hc)]
    exact body true _ rfl (fun _ => by unfold kid; rw [if_pos ⟨h2, hc⟩]) (fun h => by cases h)
   ·
    rw [decide_eq_false (show ¬ cq (at_ l (2 * i + 2)) (at_ l (2 * i + 1)) > 0 from hc)]
    exact body false _ rfl (fun h => by cases h) (fun _ => by unfold kid; rw [if_neg (fun h => hc h.2)])
  ·
   refine iff_ (by omega) ?_
   exact body false _ rfl (fun h => by cases h) (fun _ => by unfold kid; rw [if_neg (fun h => h2 h.1)])
end Go.Proofs.Ytobdhjnaglikaaa.Pure
