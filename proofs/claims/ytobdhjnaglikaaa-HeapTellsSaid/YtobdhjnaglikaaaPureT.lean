import Derived.Test.YtobdhjnaglikaaaOps
import Derived.Test.YtobdhjnaglikaaaJx14
namespace Go.Proofs.Ytobdhjnaglikaaa.Pure
open Go.RowKit Go.Proofs.Ytobdhjnaglikaaa.Q Go.Proofs.YtobdhjnaglikaaaW.PrintWords Go.Proofs.YtobdhjnaglikaaaW.PrintLast
set_option linter.unusedVariables false
theorem bytes_cmp : ∀ a b : List UInt8, Lib.compareBytes a b = if Op.bytesLess a b = true then -1 else if Op.bytesLess b a = true then 1 else 0
 | [], [] => rfl
 | [], _ :: _ => rfl
 | _ :: _, [] => rfl
 | a :: us, b :: vs => by
  have ih := bytes_cmp us vs
  simp only [Lib.compareBytes, Op.bytesLess]
  by_cases h : a < b
  ·
   rw [if_pos h]; simp [h]
  ·
   have hb : decide (a < b) = false := decide_eq_false h
   by_cases h2 : b < a
   ·
    have hne : (a == b) = false := by rw [beq_eq_false_iff_ne]; rintro rfl; exact h h2
    rw [if_neg h, if_pos h2]; simp [h2, hne, h]
   ·
    have he : a = b := by rw [UInt8.lt_iff_toNat_lt] at h h2; exact UInt8.toNat_inj.1 (by omega)
    subst he
    rw [if_neg h, if_neg h2]; simp; rw [ih]
theorem prod_eq (x y : Int) (h1 : 0 ≤ x) (h2 : x < 18446744073709551616) (h3 : 0 ≤ y) (h4 : y < 18446744073709551616) :
  samphireref10_product.f x y = some (((HI (x.toNat * y.toNat) : Nat) : Int), ((LO (x.toNat * y.toNat) : Nat) : Int)) ∧ x.toNat * y.toNat < 340282366920938463463374607431768211456 := by
 have hl : x.toNat * y.toNat < 340282366920938463463374607431768211456 := by
  have := Nat.mul_le_mul (show x.toNat ≤ 18446744073709551615 by omega) (show y.toNat ≤ 18446744073709551615 by omega)
  omega
 refine ⟨?_, hl⟩
 unfold samphireref10_product.f
 have hv : ∀ z : Int, val 0 z = z.toNat := fun z => by unfold val V; rw [Int.toNat_zero]; omega
 have : samphireref01_Mul.f 0 x 0 y = some (sized (x.toNat * y.toNat)) := by
  unfold samphireref01_Mul.f
  rw [if_pos ⟨⟨by decide, by decide⟩, ⟨h1, h2⟩, ⟨by decide, by decide⟩, ⟨h3, h4⟩⟩, hv, hv]
 refine bnd this ?_
 unfold sized
 rw [if_pos hl]
theorem rcmp_eq (a b : S25) (ha : wfI a) (hb : wfI b) : samphireref10_Cmp.f a.f0 a.f1 a.f2 b.f0 b.f1 b.f2 = some (cq a b) := by
 obtain ⟨a1, a2, a3, a4⟩ := ha
 obtain ⟨b1, b2, b3, b4⟩ := hb
 obtain ⟨p1, l1⟩ := prod_eq a.f1 b.f2 a1 a2 b3 b4
 obtain ⟨p2, l2⟩ := prod_eq b.f1 a.f2 b1 b2 a3 a4
 unfold samphireref10_Cmp.f
 refine bnd p1 (bnd p2 ?_)
 have e1 : ((a.f1.toNat * b.f2.toNat : Nat) : Int) = a.f1 * b.f2 := by rw [Int.natCast_mul, Int.toNat_of_nonneg a1, Int.toNat_of_nonneg b3]
 have e2 : ((b.f1.toNat * a.f2.toNat : Nat) : Int) = b.f1 * a.f2 := by rw [Int.natCast_mul, Int.toNat_of_nonneg b1, Int.toNat_of_nonneg a3]
 have hin : ∀ n : Nat, n < 340282366920938463463374607431768211456 → in64 ((HI n : Nat) : Int) ∧ in64 ((LO n : Nat) : Int) := fun n hn => by
  have := HI_lt hn; have := LO_lt n; unfold in64; omega
 have hval : ∀ n : Nat, val ((HI n : Nat) : Int) ((LO n : Nat) : Int) = n := V_HILO
 have hc : samphireref01_Cmp.f ((HI (a.f1.toNat * b.f2.toNat) : Nat) : Int) ((LO (a.f1.toNat * b.f2.toNat) : Nat) : Int) ((HI (b.f1.toNat * a.f2.toNat) : Nat) : Int) ((LO (b.f1.toNat * a.f2.toNat) : Nat) : Int) = some (cmpN (a.f1 * b.f2) (b.f1 * a.f2)) := by
  unfold samphireref01_Cmp.f
  rw [if_pos ⟨(hin _ l1).1, (hin _ l1).2, (hin _ l2).1, (hin _ l2).2⟩, hval, hval, ← e1, ← e2]
  unfold cmpR cmpN
  simp only [Int.ofNat_lt]
 refine bnd hc ?_
 unfold cq cb
 by_cases h : cmpN (a.f1 * b.f2) (b.f1 * a.f2) = 0
 ·
  rw [if_pos h, if_pos h, show a.f0.toList = a.f0.data.toList from Lib.toList_data _, show b.f0.toList = b.f0.data.toList from Lib.toList_data _, bytes_cmp a.f0.data.toList b.f0.data.toList]
  split
  ·
   rfl
  ·
   split <;> rfl
 ·
  rw [if_neg h, if_neg h]
theorem may_eq (x : S25) (hx : wfI x) : ∃ b, samphireref10_May.f x.f0 x.f1 x.f2 = some b ∧ (b = true ↔ okI x) := by
 unfold samphireref10_May.f okI
 by_cases h : x.f0.size ≤ 64
 ·
  refine ⟨decide (x.f2 > 0), by rw [if_pos (by omega)], ?_⟩
  rw [decide_eq_true_iff]
  have := hx.2.2.1
  exact ⟨fun g => ⟨h, by omega⟩, fun g => by have := g.2; omega⟩
 ·
  exact ⟨false, by rw [if_neg (by omega)], ⟨(fun g => by cases g), fun g => absurd g.1 h⟩⟩
def kidsOk (l : List S25) (i : Nat) : Prop := ∀ j c, i ≤ j → j < l.length → 2 * j + 1 ≤ c → c ≤ 2 * j + 2 → c < l.length → 0 ≤ cq (at_ l j) (at_ l c)
theorem kids_iff (l : List S25) : kidsOk l 0 ↔ Ordered l := by
 constructor
 ·
  intro h j h0 hj
  have := h (up j) j (Nat.zero_le _) (by unfold up; omega) (by unfold up; omega) (by unfold up; omega) hj
  have := cq_anti (at_ l j) (at_ l (up j))
  omega
 ·
  intro h j c _ hj h1 h2 hc
  have := h c (by omega) hc
  rw [show up c = j by unfold up; omega] at this
  have := cq_anti (at_ l c) (at_ l j)
  omega
theorem r11_kids (l : List S25) (hw : Wf l) (hl : l.length ≤ 1000) (m : Nat) : ∀ (i k : Nat), i + m = l.length → 10 * m + 5 < k → ∃ b, samphireref11_Right.l1 k l (i : Int) = some b ∧ (b = true ↔ kidsOk l i) := by
 induction m with
 | zero =>
  intro i k hi hk
  obtain ⟨k, rfl⟩ : ∃ j, k = j + 1 := ⟨k - 1, by omega⟩
  exact ⟨true, by rw [samphireref11_Right.l1]; exact iff_ (by omega) rfl, ⟨fun _ j c h1 h2 => absurd h2 (by omega), fun _ => rfl⟩⟩
 | succ m ih =>
  intro i k hi hk
  obtain ⟨k, rfl⟩ : ∃ j, k = j + 7 := ⟨k - 7, by omega⟩
  have ew : wrap64 ((i : Int) + 1) = ((i + 1 : Nat) : Int) := by unfold wrap64; omega
  have e2 : wrap64 (2 * (i : Int)) = ((2 * i : Nat) : Int) := by unfold wrap64; omega
  have e3 : wrap64 (((2 * i : Nat) : Int) + 1) = ((2 * i + 1 : Nat) : Int) := by unfold wrap64; omega
  have e4 : wrap64 (((2 * i : Nat) : Int) + 2) = ((2 * i + 2 : Nat) : Int) := by unfold wrap64; omega
  have e5 : wrap64 (((2 * i + 1 : Nat) : Int) + 1) = ((2 * i + 2 : Nat) : Int) := by unfold wrap64; omega
  have e6 : wrap64 (((2 * i + 2 : Nat) : Int) + 1) = ((2 * i + 3 : Nat) : Int) := by unfold wrap64; omega
  have end_ : ∀ k', 10 * m + 5 < k' → ∀ x : Int, ∃ b, samphireref11_Right.j3 (k' + 1) l (i : Int) x false = some b ∧ (b = true ↔ kidsOk l (i + 1)) := fun k' hk' x => by
   obtain ⟨b, e, hb⟩ := ih (i + 1) k' (by omega) hk'
   exact ⟨b, by rw [samphireref11_Right.j3]; exact iff_ (by decide) (by rw [ew]; exact e), hb⟩
  have go : ∀ c : Nat, c < l.length → ∀ k', samphireref11_Right.j3 (k' + 1) l (i : Int) (c : Int) true = if cq (at_ l i) (at_ l c) < 0 then some false else samphireref11_Right.l2 k' l (i : Int) (wrap64 ((c : Int) + 1)) := fun c hc k' => by
   rw [samphireref11_Right.j3]
   refine ift rfl (ift (by omega) (ift (by omega) (ift (by omega) (ift (by omega) ?_))))
   rw [rd_at, rd_at]
   exact bnd (rcmp_eq _ _ (hw _ (at_mem (by omega))) (hw _ (at_mem hc))) rfl
  rw [show k + 7 = (k + 6) + 1 from rfl, samphireref11_Right.l1]
  have step1 : ∃ b, samphireref11_Right.l2 (k + 6) l (i : Int) ((2 * i + 1 : Nat) : Int) = some b ∧ (b = true ↔ kidsOk l i) := by
   rw [show k + 6 = (k + 5) + 1 from rfl, samphireref11_Right.l2, e2, e4]
   rw [if_pos (show ((2 * i + 1 : Nat) : Int) ≤ ((2 * i + 2 : Nat) : Int) by omega)]
   by_cases h1 : 2 * i + 1 < l.length
   ·
    rw [decide_eq_true (show ((2 * i + 1 : Nat) : Int) < (l.length : Int) by omega), go _ h1 (k + 4)]
    by_cases hc : cq (at_ l i) (at_ l (2 * i + 1)) < 0
    ·
     rw [if_pos hc]
     exact ⟨false, rfl, ⟨(fun h => by cases h), fun h => by have := h i (2 * i + 1) (Nat.le_refl _) (by omega) (by omega) (by omega) h1; omega⟩⟩
    ·
     rw [if_neg hc, e5, show k + 4 = (k + 3) + 1 from rfl, samphireref11_Right.l2, e2, e4]
     rw [if_pos (show ((2 * i + 2 : Nat) : Int) ≤ ((2 * i + 2 : Nat) : Int) by omega)]
     by_cases h2 : 2 * i + 2 < l.length
     ·
      rw [decide_eq_true (show ((2 * i + 2 : Nat) : Int) < (l.length : Int) by omega), show k + 3 = (k + 2) + 1 from rfl, go _ h2 (k + 2)]
      by_cases hc2 : cq (at_ l i) (at_ l (2 * i + 2)) < 0
      ·
       rw [if_pos hc2]
       exact ⟨false, rfl, ⟨(fun h => by cases h), fun h => by have := h i (2 * i + 2) (Nat.le_refl _) (by omega) (by omega) (by omega) h2; omega⟩⟩
      ·
       rw [if_neg hc2, e6, show k + 2 = (k + 1) + 1 from rfl, samphireref11_Right.l2, e2, e4]
       rw [if_neg (show ¬ ((2 * i + 3 : Nat) : Int) ≤ ((2 * i + 2 : Nat) : Int) by omega)]
       obtain ⟨b, e, hb⟩ := end_ k (by omega) ((2 * i + 3 : Nat) : Int)
       refine ⟨b, e, hb.trans ⟨fun h j c h3 h4 h5 h6 h7 => ?_, fun h j c h3 => h j c (by omega)⟩⟩
       by_cases hj : j = i
       ·
        subst hj
        rcases (show c = 2 * j + 1 ∨ c = 2 * j + 2 by omega) with rfl | rfl <;> omega
       ·
        exact h j c (by omega) h4 h5 h6 h7
     ·
      rw [decide_eq_false (show ¬ ((2 * i + 2 : Nat) : Int) < (l.length : Int) by omega)]
      obtain ⟨b, e, hb⟩ := end_ (k + 2) (by omega) ((2 * i + 2 : Nat) : Int)
      refine ⟨b, e, hb.trans ⟨fun h j c h3 h4 h5 h6 h7 => ?_, fun h j c h3 => h j c (by omega)⟩⟩
      by_cases hj : j = i
      ·
       subst hj
       obtain rfl : c = 2 * j + 1 := by omega
       omega
      ·
       exact h j c (by omega) h4 h5 h6 h7
   ·
    rw [decide_eq_false (show ¬ ((2 * i + 1 : Nat) : Int) < (l.length : Int) by omega)]
    obtain ⟨b, e, hb⟩ := end_ (k + 4) (by omega) ((2 * i + 1 : Nat) : Int)
    refine ⟨b, e, hb.trans ⟨fun h j c h3 h4 h5 h6 h7 => ?_, fun h j c h3 => h j c (by omega)⟩⟩
    by_cases hj : j = i
    ·
     omega
    ·
     exact h j c (by omega) h4 h5 h6 h7
  obtain ⟨b, e, hb⟩ := step1
  refine ⟨b, ?_, hb⟩
  rw [if_pos (by omega), e2, e3]
  exact e
theorem r11_may (l : List S25) (hw : Wf l) (hl : l.length ≤ 1000) (m : Nat) : ∀ (i k : Nat), i + m = l.length → m + 10 * l.length + 10 < k → (∀ j, j < i → okI (at_ l j)) → ∃ b, samphireref11_Right.l0 k l (i : Int) = some b ∧ (b = true ↔ Heap l) := by
 induction m with
 | zero =>
  intro i k hi hk ho
  obtain ⟨k, rfl⟩ : ∃ j, k = j + 1 := ⟨k - 1, by omega⟩
  obtain ⟨b, e, hb⟩ := r11_kids l hw hl l.length 0 k (by omega) (by omega)
  refine ⟨b, by rw [samphireref11_Right.l0]; exact iff_ (by omega) e, hb.trans ((kids_iff l).trans ?_)⟩
  rw [heap_iff]
  refine ⟨fun h => ⟨fun c hc => ?_, h⟩, fun h => h.2⟩
  obtain ⟨j, hj, rfl⟩ := List.mem_iff_getElem.1 hc
  have := ho j (by omega)
  unfold at_ at this
  rw [List.getD_eq_getElem?_getD, List.getElem?_eq_getElem hj] at this
  exact this
 | succ m ih =>
  intro i k hi hk ho
  obtain ⟨k, rfl⟩ : ∃ j, k = j + 1 := ⟨k - 1, by omega⟩
  have ew : wrap64 ((i : Int) + 1) = ((i + 1 : Nat) : Int) := by unfold wrap64; omega
  obtain ⟨c, ec, hc⟩ := may_eq (at_ l i) (hw _ (at_mem (by omega)))
  cases c with
  | false =>
   refine ⟨false, ?_, ⟨(fun h => by cases h), fun h => absurd ((hc.2 (h i (by omega)).1)) (by decide)⟩⟩
   rw [samphireref11_Right.l0]
   refine ift (by omega) (ift (by omega) ?_)
   rw [rd_at]
   exact bnd ec (iff_ (by decide) rfl)
  | true =>
   obtain ⟨b, e, hb⟩ := ih (i + 1) k (by omega) (by omega) (fun j hj => (Nat.lt_succ_iff_lt_or_eq.1 hj).elim (ho j) (fun h => by rw [h]; exact hc.1 rfl))
   refine ⟨b, ?_, hb⟩
   rw [samphireref11_Right.l0]
   refine ift (by omega) (ift (by omega) ?_)
   rw [rd_at]
   refine bnd ec (ift rfl ?_)
   rw [ew]; exact e
theorem right11_eq (l : List S25) (hw : Wf l) (hl : l.length ≤ 1000) (k : Nat) (hk : 11 * l.length + 10 < k) : ∃ b, samphireref11_Right.f k l = some b ∧ (b = true ↔ Heap l) :=
 r11_may l hw hl l.length 0 k (by omega) (by omega) (fun j hj => absurd hj (by omega))
theorem copied_eq (l : List S25) (hl : l.length ≤ 1000) : samphireref11_copied.f l = some l := by
 unfold samphireref11_copied.f
 rw [if_pos (by simp; omega)]; rfl
theorem swap_eq (l : List S25) (i j : Nat) (hi : i < l.length) (hj : j < l.length) (hl : l.length ≤ 1000) : samphireref11_swap.f l (i : Int) (j : Int) = some (sw l i j) := by
 unfold samphireref11_swap.f
 refine bnd (copied_eq l hl) (ift (by omega) (ift (by omega) (ift (by omega) (ift (by omega) (ift (by omega) (ift (by omega) ?_))))))
 rw [rd_at, rd_at, Int.toNat_natCast, Int.toNat_natCast]
 rfl
theorem wup (i : Nat) (h : 0 < i) (hi : i < 100000) : wrap64 (Int.tdiv (wrap64 ((i : Int) - 1)) 2) = ((up i : Nat) : Int) := by
 have e : wrap64 ((i : Int) - 1) = ((i - 1 : Nat) : Int) := by unfold wrap64; omega
 rw [e, show Int.tdiv ((i - 1 : Nat) : Int) 2 = (((i - 1) / 2 : Nat) : Int) from rfl]
 unfold up wrap64; omega
theorem lift11_eq (n : Nat) : ∀ (l : List S25) (i k : Nat), i < l.length → i ≤ n → l.length ≤ 1000 → Wf l → 2 * n + 10 < k → samphireref11_Lift.f k l (i : Int) = some (liftF n l i).1 := by
 induction n with
 | zero =>
  intro l i k hi hn hl hw hk
  obtain ⟨k, rfl⟩ : ∃ j, k = j + 2 := ⟨k - 2, by omega⟩
  obtain rfl : i = 0 := by omega
  rw [show k + 2 = (k + 1) + 1 from rfl, samphireref11_Lift.f]
  refine ift rfl ?_
  rw [samphireref11_Lift.j0]
  exact ift rfl rfl
 | succ n ih =>
  intro l i k hi hn hl hw hk
  obtain ⟨k, rfl⟩ : ∃ j, k = j + 2 := ⟨k - 2, by omega⟩
  rw [show k + 2 = (k + 1) + 1 from rfl, samphireref11_Lift.f]
  by_cases h0 : 0 < i
  ·
   have hu : up i < i := by unfold up; omega
   rw [wup i h0 (by omega)]
   refine iff_ (by omega) (ift (by omega) (ift (by omega) (ift (by omega) (ift (by omega) ?_))))
   rw [rd_at, rd_at]
   refine bnd (rcmp_eq _ _ (hw _ (at_mem hi)) (hw _ (at_mem (by omega)))) ?_
   rw [samphireref11_Lift.j0, wup i h0 (by omega), liftF]
   by_cases hc : 0 < cq (at_ l i) (at_ l (up i))
   ·
    rw [if_pos (show 0 < i ∧ 0 < cq (at_ l i) (at_ l (up i)) from ⟨h0, hc⟩)]
    refine iff_ (by rw [decide_eq_false (show ¬ cq (at_ l i) (at_ l (up i)) ≤ 0 by omega)]; decide) ?_
    refine bnd (swap_eq l i (up i) hi (by omega) hl) (bnd (ih (sw l i (up i)) (up i) k (by rw [sw_length]; omega) (by omega) (by rw [sw_length]; exact hl) (wf_perm (sw_perm l i (up i) hi (by omega) (by omega)) hw) (by omega)) rfl)
   ·
    rw [if_neg (show ¬ (0 < i ∧ 0 < cq (at_ l i) (at_ l (up i))) from fun h => hc h.2)]
    exact ift (decide_eq_true (by omega)) rfl
  ·
   obtain rfl : i = 0 := by omega
   refine ift rfl ?_
   rw [samphireref11_Lift.j0, liftF]
   rw [if_neg (show ¬ (0 < 0 ∧ 0 < cq (at_ l 0) (at_ l (up 0))) from fun h => absurd h.1 (by omega))]
   exact ift rfl rfl
theorem sink11_eq (n : Nat) : ∀ (l : List S25) (i k : Nat), i < l.length → l.length ≤ n + i → l.length ≤ 1000 → Wf l → 3 * n + 10 < k → samphireref11_Sink.f k l (i : Int) = some (sinkF n l i) := by
 induction n with
 | zero => intro l i k hi hn; omega
 | succ n ih =>
  intro l i k hi hn hl hw hk
  obtain ⟨k, rfl⟩ : ∃ j, k = j + 3 := ⟨k - 3, by omega⟩
  have e2 : wrap64 (2 * (i : Int)) = ((2 * i : Nat) : Int) := by unfold wrap64; omega
  have e3 : wrap64 (((2 * i : Nat) : Int) + 1) = ((2 * i + 1 : Nat) : Int) := by unfold wrap64; omega
  have e5 : wrap64 (((2 * i + 1 : Nat) : Int) + 1) = ((2 * i + 2 : Nat) : Int) := by unfold wrap64; omega
  rw [show k + 3 = (k + 2) + 1 from rfl, samphireref11_Sink.f, e2, e3, e5, sinkF]
  have fin : ∀ q, kid l i = q → q < l.length → samphireref11_Sink.j1 (k + 1) l (i : Int) (q : Int) = some (if kid l i < l.length ∧ 0 < cq (at_ l (kid l i)) (at_ l i) then sinkF n (sw l i (kid l i)) (kid l i) else l) := by
   intro q hq hql
   have hlt : i < q := by have := (kid_up l i).2; omega
   rw [hq, samphireref11_Sink.j1]
   refine ift (by omega) (ift (by omega) (ift (by omega) (ift (by omega) ?_)))
   rw [rd_at, rd_at]
   refine bnd (rcmp_eq _ _ (hw _ (at_mem hi)) (hw _ (at_mem hql))) ?_
   have ha := cq_anti (at_ l i) (at_ l q)
   by_cases hc : 0 < cq (at_ l q) (at_ l i)
   ·
    rw [if_pos (show q < l.length ∧ 0 < cq (at_ l q) (at_ l i) from ⟨hql, hc⟩)]
    refine iff_ (by omega) (bnd (swap_eq l i q hi hql hl) (bnd (ih (sw l i q) q k (by rw [sw_length]; exact hql) (by rw [sw_length]; omega) (by rw [sw_length]; exact hl) (wf_perm (sw_perm l i q hi hql (by omega)) hw) (by omega)) rfl))
   ·
    rw [if_neg (show ¬ (q < l.length ∧ 0 < cq (at_ l q) (at_ l i)) from fun h => hc h.2)]
    exact ift (by omega) rfl
  by_cases h1 : 2 * i + 1 < l.length
  ·
   refine iff_ (by omega) ?_
   by_cases h2 : 2 * i + 2 < l.length
   ·
    refine ift (by omega) (ift (by omega) (ift (by omega) (ift (by omega) ?_)))
    rw [rd_at, rd_at]
    refine bnd (rcmp_eq _ _ (hw _ (at_mem h1)) (hw _ (at_mem h2))) ?_
    have ha := cq_anti (at_ l (2 * i + 1)) (at_ l (2 * i + 2))
    rw [samphireref11_Sink.j0]
    by_cases hc : 0 < cq (at_ l (2 * i + 2)) (at_ l (2 * i + 1))
    ·
     refine ift (decide_eq_true (by omega)) ?_
     rw [e5]
     exact fin (2 * i + 2) (by unfold kid; rw [if_pos ⟨h2, hc⟩]) h2
    ·
     refine iff_ (by rw [decide_eq_false (show ¬ cq (at_ l (2 * i + 1)) (at_ l (2 * i + 2)) < 0 by omega)]; decide) ?_
     exact fin (2 * i + 1) (by unfold kid; rw [if_neg (fun h => hc h.2)]) h1
   ·
    refine iff_ (by omega) ?_
    rw [samphireref11_Sink.j0]
    refine iff_ (by decide) ?_
    exact fin (2 * i + 1) (by unfold kid; rw [if_neg (fun h => h2 h.1)]) h1
  ·
   have hk1 : ¬ kid l i < l.length := by unfold kid; split <;> omega
   refine ift (by omega) ?_
   rw [if_neg (show ¬ (kid l i < l.length ∧ 0 < cq (at_ l (kid l i)) (at_ l i)) from fun h => hk1 h.1)]
end Go.Proofs.Ytobdhjnaglikaaa.Pure
