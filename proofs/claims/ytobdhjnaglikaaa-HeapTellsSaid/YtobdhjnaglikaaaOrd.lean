import Derived.Test.YtobdhjnaglikaaaQx3
import Derived.Test.YtobdhjnaglikaaaRowi
namespace Go.Proofs.Ytobdhjnaglikaaa.Pure
open Go.RowKit Go.Proofs.Ytobdhjnaglikaaa.Q Go.Proofs.YtobdhjnaglikaaaW.PrintWords Go.Proofs.YtobdhjnaglikaaaW.PrintLast
set_option linter.unusedVariables false
theorem bnd {α β : Type} {o : Option α} {f : α → Option β} {x : α} {r : Option β} (h : o = some x) (h2 : f x = r) : o.bind f = r := by subst h; exact h2
theorem ift {α : Type} {c : Prop} {d : Decidable c} {x y r : α} (h : c) (h2 : x = r) : (@ite α c d x y) = r := by rw [if_pos h]; exact h2
theorem iff_ {α : Type} {c : Prop} {d : Decidable c} {x y r : α} (h : ¬ c) (h2 : y = r) : (@ite α c d x y) = r := by rw [if_neg h]; exact h2
def cmpN (p q : Int) : Int := if p < q then -1 else if q < p then 1 else 0
def cb (a b : ByteArray) : Int := Lib.compareBytes a.data.toList b.data.toList
def cq (a b : S25) : Int := if cmpN (a.f1 * b.f2) (b.f1 * a.f2) = 0 then cb a.f0 b.f0 else cmpN (a.f1 * b.f2) (b.f1 * a.f2)
theorem order_eq (a b : Int) : wide_order.f a b = some (cmpN a b) := by
 unfold wide_order.f cmpN
 by_cases h : a < b
 ·
  rw [if_pos h, if_pos h]
 ·
  rw [if_neg h, if_neg h]
  by_cases h2 : b < a
  ·
   rw [if_pos h2, if_pos h2]
  ·
   rw [if_neg h2, if_neg h2]
theorem cmpN_cases (p q : Int) : (p < q ∧ cmpN p q = -1) ∨ (p = q ∧ cmpN p q = 0) ∨ (q < p ∧ cmpN p q = 1) := by
 unfold cmpN
 by_cases h : p < q
 ·
  exact .inl ⟨h, if_pos h⟩
 ·
  by_cases h2 : q < p
  ·
   exact .inr (.inr ⟨h2, by rw [if_neg h, if_pos h2]⟩)
  ·
   exact .inr (.inl ⟨by omega, by rw [if_neg h, if_neg h2]⟩)
theorem wcmp (p q : Nat) : wide_Cmp.f ((p / 18446744073709551616 : Nat) : Int) ((p % 18446744073709551616 : Nat) : Int) ((q / 18446744073709551616 : Nat) : Int) ((q % 18446744073709551616 : Nat) : Int) = some (cmpN (p : Int) (q : Int)) := by
 unfold wide_Cmp.f
 refine bnd (order_eq _ _) ?_
 rcases cmpN_cases ((p / 18446744073709551616 : Nat) : Int) ((q / 18446744073709551616 : Nat) : Int) with ⟨h, e⟩ | ⟨h, e⟩ | ⟨h, e⟩
 ·
  rcases cmpN_cases (p : Int) (q : Int) with ⟨h', e'⟩ | ⟨h', e'⟩ | ⟨h', e'⟩
  ·
   rw [e, e']; exact iff_ (by decide) rfl
  ·
   exfalso; omega
  ·
   exfalso; omega
 ·
  rw [e]
  refine ift rfl (bnd (order_eq _ _) ?_)
  rcases cmpN_cases ((p % 18446744073709551616 : Nat) : Int) ((q % 18446744073709551616 : Nat) : Int) with ⟨h2, e2⟩ | ⟨h2, e2⟩ | ⟨h2, e2⟩ <;> rcases cmpN_cases (p : Int) (q : Int) with ⟨h', e'⟩ | ⟨h', e'⟩ | ⟨h', e'⟩ <;> first | (exfalso; omega) | (rw [e2, e'])
 ·
  rcases cmpN_cases (p : Int) (q : Int) with ⟨h', e'⟩ | ⟨h', e'⟩ | ⟨h', e'⟩
  ·
   exfalso; omega
  ·
   exfalso; omega
  ·
   rw [e, e']; exact iff_ (by decide) rfl
theorem full_eq (a b : Int) (ha : 0 ≤ a) (ha2 : a < 18446744073709551616) (hb : 0 ≤ b) (hb2 : b < 18446744073709551616) : wide_Full.f a b = some (((a.toNat * b.toNat / 18446744073709551616 : Nat) : Int), ((a.toNat * b.toNat % 18446744073709551616 : Nat) : Int)) := by
 unfold wide_Full.f bits_Mul64.f
 rw [if_pos ⟨ha, ha2, hb, hb2⟩]
 rfl
theorem or_eq (c d : Int) (k : Nat) (hk : 3 ≤ k) : cmp_Or_int.f k [c, d] = some (if c = 0 then d else c) := by
 obtain ⟨k, rfl⟩ : ∃ j, k = j + 3 := ⟨k - 3, by omega⟩
 unfold cmp_Or_int.f
 rw [show k + 3 = (k + 2) + 1 from rfl, cmp_Or_int.l0]
 refine ift (by simp) (ift (by simp) (ift (by simp) ?_))
 have r0 : rd [c, d] 0 = c := rfl
 have r1 : rd [c, d] 1 = d := rfl
 rw [r0]
 by_cases h : c = 0
 ·
  rw [if_pos h, if_pos h]
  rw [show wrap64 (0 + 1) = 1 from by unfold wrap64; omega, show k + 2 = (k + 1) + 1 from rfl, cmp_Or_int.l0]
  refine ift (by simp) (ift (by simp) (ift (by simp) ?_))
  rw [r1]
  by_cases h2 : d = 0
  ·
   rw [if_pos h2]
   rw [show wrap64 (1 + 1) = 2 from by unfold wrap64; omega, cmp_Or_int.l0]
   refine iff_ (by simp) ?_
   rw [h2]
  ·
   rw [if_neg h2]
 ·
  rw [if_neg h, if_neg h]
theorem cmp_eq (a b : S25) (ha : wfI a) (hb : wfI b) (k : Nat) (hk : 3 ≤ k) : rank_Cmp.f k a.f0 a.f1 a.f2 b.f0 b.f1 b.f2 = some (cq a b) := by
 obtain ⟨a1, a2, a3, a4⟩ := ha
 obtain ⟨b1, b2, b3, b4⟩ := hb
 unfold rank_Cmp.f
 refine bnd (full_eq _ _ a1 a2 b3 b4) (bnd (full_eq _ _ b1 b2 a3 a4) ?_)
 refine bnd (wcmp _ _) ?_
 have e1 : ((a.f1.toNat * b.f2.toNat : Nat) : Int) = a.f1 * b.f2 := by rw [Int.natCast_mul, Int.toNat_of_nonneg a1, Int.toNat_of_nonneg b3]
 have e2 : ((b.f1.toNat * a.f2.toNat : Nat) : Int) = b.f1 * a.f2 := by rw [Int.natCast_mul, Int.toNat_of_nonneg b1, Int.toNat_of_nonneg a3]
 rw [e1, e2]
 refine bnd rfl (bnd (or_eq _ _ k hk) ?_)
 unfold cq cb
 split <;> rfl
theorem bytes_anti : ∀ a b : List UInt8, Lib.compareBytes a b = - Lib.compareBytes b a
 | [], [] => rfl
 | [], _ :: _ => rfl
 | _ :: _, [] => rfl
 | a :: us, b :: vs => by
  simp only [Lib.compareBytes]
  by_cases h : a < b
  ·
   rw [if_pos h, if_neg (by rw [UInt8.lt_iff_toNat_lt] at *; omega), if_pos h]
  ·
   by_cases h2 : b < a
   ·
    rw [if_neg h, if_pos h2, if_pos h2]; rfl
   ·
    rw [if_neg h, if_neg h2, if_neg h2, if_neg h]; exact bytes_anti us vs
theorem cq_anti (a b : S25) : cq a b = - cq b a := by
 have e := bytes_anti a.f0.data.toList b.f0.data.toList
 unfold cq cb
 rcases cmpN_cases (a.f1 * b.f2) (b.f1 * a.f2) with ⟨h, e1⟩ | ⟨h, e1⟩ | ⟨h, e1⟩ <;>
  rcases cmpN_cases (b.f1 * a.f2) (a.f1 * b.f2) with ⟨h', e2⟩ | ⟨h', e2⟩ | ⟨h', e2⟩ <;> first | (exfalso; omega) | (rw [e1, e2]; simp; try exact e)
def okI (x : S25) : Prop := x.f0.size ≤ 64 ∧ x.f2 ≠ 0
theorem check_eq (x : S25) : (okI x ∧ rank_Check.f x.f0 x.f1 x.f2 = some 0) ∨ (¬ okI x ∧ ∃ e, e ≠ 0 ∧ rank_Check.f x.f0 x.f1 x.f2 = some e) := by
 unfold rank_Check.f okI
 by_cases h : x.f0.size ≤ 64
 ·
  rw [if_neg (by omega)]
  by_cases h2 : x.f2 = 0
  ·
   rw [if_pos h2]; exact .inr ⟨fun g => g.2 h2, 7, by decide, rfl⟩
  ·
   rw [if_neg h2]; exact .inl ⟨⟨h, h2⟩, rfl⟩
 ·
  rw [if_pos (by omega)]; exact .inr ⟨fun g => h g.1, 5, by decide, rfl⟩
def at_ (l : List S25) (i : Nat) : S25 := l.getD i z25
def hpAt (l : List S25) (i : Nat) : Prop := okI (at_ l i) ∧ (0 < i → cq (at_ l i) (at_ l ((i - 1) / 2)) ≤ 0)
def Heap (l : List S25) : Prop := ∀ i, i < l.length → hpAt l i
theorem at_mem {l : List S25} {i : Nat} (h : i < l.length) : at_ l i ∈ l := by
 unfold at_
 rw [List.getD_eq_getElem?_getD, List.getElem?_eq_getElem h]
 exact List.getElem_mem _
theorem up_eq (i : Nat) (h : 0 < i) (hi : i < 9223372036854775807) : heap_up.f (i : Int) = some (((i - 1) / 2 : Nat) : Int) := by
 unfold heap_up.f
 have e : wrap64 ((i : Int) - 1) = ((i - 1 : Nat) : Int) := by unfold wrap64; omega
 rw [e, show Int.tdiv ((i - 1 : Nat) : Int) 2 = (((i - 1) / 2 : Nat) : Int) from rfl]
 have e2 : wrap64 (((i - 1) / 2 : Nat) : Int) = (((i - 1) / 2 : Nat) : Int) := by unfold wrap64; omega
 rw [e2]
theorem right_loop (l : List S25) (hw : ∀ c ∈ l, wfI c) (hl : l.length ≤ 9223372036854775807) (m : Nat) : ∀ (i k : Nat), i + m = l.length → m + 5 < k →
  ∃ b, heap_Right.l0 k l l (l.length : Int) (i : Int) = some b ∧ (b = true ↔ ∀ j, i ≤ j → j < l.length → hpAt l j) := by
 induction m with
 | zero =>
  intro i k hi hk
  obtain ⟨k, rfl⟩ : ∃ j, k = j + 1 := ⟨k - 1, by omega⟩
  exact ⟨true, by rw [heap_Right.l0]; exact iff_ (by omega) rfl, by simp; omega⟩
 | succ m ih =>
  intro i k hi hk
  obtain ⟨k, rfl⟩ : ∃ j, k = j + 1 := ⟨k - 1, by omega⟩
  have hr : ∀ j : Nat, rd_T25 l (j : Int) = at_ l j := fun j => by unfold rd_T25 at_; rw [Int.toNat_natCast]
  have ew : wrap64 ((i : Int) + 1) = ((i + 1 : Nat) : Int) := by unfold wrap64; omega
  obtain ⟨b, e, hb⟩ := ih (i + 1) k (by omega) (by omega)
  have step : (hpAt l i → (b = true ↔ ∀ j, i ≤ j → j < l.length → hpAt l j)) := fun h => by
   rw [hb]
   exact ⟨fun g j h1 h2 => (Nat.eq_or_lt_of_le h1).elim (fun e => e ▸ h) (fun e => g j e h2), fun g j h1 h2 => g j (by omega) h2⟩
  rcases check_eq (at_ l i) with ⟨ho, hc⟩ | ⟨ho, e', he', hc⟩
  ·
   by_cases h0 : 0 < i
   ·
    have hcm := cmp_eq (at_ l i) (at_ l ((i - 1) / 2)) (hw _ (at_mem (by omega))) (hw _ (at_mem (by omega))) k (by omega)
    by_cases hq : cq (at_ l i) (at_ l ((i - 1) / 2)) ≤ 0
    ·
     refine ⟨b, ?_, step ⟨ho, fun _ => hq⟩⟩
     rw [heap_Right.l0]
     refine ift (by omega) (ift (by omega) (ift (by omega) ?_))
     rw [hr]
     refine bnd hc (ift rfl (ift (by omega) (bnd (up_eq i h0 (by omega)) (ift (by omega) (ift (by omega) ?_)))))
     rw [hr]
     refine bnd hcm (iff_ (by omega) ?_)
     rw [ew]; exact e
    ·
     refine ⟨false, ?_, ⟨(fun g => by cases g), fun g => absurd ((g i (Nat.le_refl _) (by omega)).2 h0) hq⟩⟩
     rw [heap_Right.l0]
     refine ift (by omega) (ift (by omega) (ift (by omega) ?_))
     rw [hr]
     refine bnd hc (ift rfl (ift (by omega) (bnd (up_eq i h0 (by omega)) (ift (by omega) (ift (by omega) ?_)))))
     rw [hr]
     exact bnd hcm (ift (by omega) rfl)
   ·
    refine ⟨b, ?_, step ⟨ho, fun h => absurd h h0⟩⟩
    rw [heap_Right.l0]
    refine ift (by omega) (ift (by omega) (ift (by omega) ?_))
    rw [hr]
    refine bnd hc (ift rfl (iff_ (by omega) ?_))
    rw [ew]; exact e
  ·
   refine ⟨false, ?_, ⟨(fun g => by cases g), fun g => absurd (g i (Nat.le_refl _) (by omega)).1 ho⟩⟩
   rw [heap_Right.l0]
   refine ift (by omega) (ift (by omega) (ift (by omega) ?_))
   rw [hr]
   exact bnd hc (iff_ he' rfl)
theorem right_eq (l : List S25) (hw : ∀ c ∈ l, wfI c) (hl : l.length ≤ 9223372036854775807) (k : Nat) (hk : l.length + 5 < k) : ∃ b, heap_Right.f k l = some b ∧ (b = true ↔ Heap l) := by
 obtain ⟨b, e, hb⟩ := right_loop l hw hl l.length 0 k (by omega) hk
 exact ⟨b, e, by rw [hb]; exact ⟨fun g i hi => g i (Nat.zero_le _) hi, fun g i _ hi => g i hi⟩⟩
theorem small_loop (l : List S25) (hl : l.length ≤ 60) (m : Nat) : ∀ (i k : Nat), i + m = l.length → m + 2 < k → ∃ b, samphireref10_Small.l0 k l (i : Int) = some b := by
 induction m with
 | zero =>
  intro i k hi hk
  obtain ⟨k, rfl⟩ : ∃ j, k = j + 1 := ⟨k - 1, by omega⟩
  exact ⟨true, by rw [samphireref10_Small.l0]; exact iff_ (by omega) rfl⟩
 | succ m ih =>
  intro i k hi hk
  obtain ⟨k, rfl⟩ : ∃ j, k = j + 1 := ⟨k - 1, by omega⟩
  obtain ⟨b, e⟩ := ih (i + 1) k (by omega) (by omega)
  have ew : wrap64 ((i : Int) + 1) = ((i + 1 : Nat) : Int) := by unfold wrap64; omega
  by_cases h : ((rd_T25 l (i : Int)).f0.size : Int) > 100
  ·
   exact ⟨false, by rw [samphireref10_Small.l0]; exact ift (by omega) (ift (by omega) (ift h rfl))⟩
  ·
   exact ⟨b, by rw [samphireref10_Small.l0]; exact ift (by omega) (ift (by omega) (iff_ h (by rw [ew]; exact e)))⟩
theorem small_eq (l : List S25) (k : Nat) (hk : 70 < k) : ∃ b, samphireref10_Small.f k l = some b ∧ (b = true → l.length ≤ 60) := by
 unfold samphireref10_Small.f
 by_cases h : l.length ≤ 60
 ·
  obtain ⟨b, e⟩ := small_loop l h l.length 0 k (by omega) (by omega)
  exact ⟨b, iff_ (by omega) e, fun _ => h⟩
 ·
  exact ⟨false, ift (by omega) rfl, fun g => by cases g⟩
end Go.Proofs.Ytobdhjnaglikaaa.Pure
