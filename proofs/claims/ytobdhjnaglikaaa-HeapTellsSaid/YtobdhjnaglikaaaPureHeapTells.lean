import Derived.Test.YtobdhjnaglikaaaPureT
import Derived.Test.YtobdhjnaglikaaaJx15
namespace Go.Proofs.Ytobdhjnaglikaaa.Pure
open Go.RowKit Go.Proofs.Ytobdhjnaglikaaa.Q Go.Proofs.YtobdhjnaglikaaaW.PrintWords Go.Proofs.YtobdhjnaglikaaaW.PrintLast
set_option linter.unusedVariables false
theorem awake0 : samphirelaw11_awake.f 40 = some true := by decide +kernel
theorem awake (k : Nat) : samphirelaw11_awake.f (40 + k) = some true := more_rounds samphirelaw11_awake.mono 40 k true awake0
theorem awake' {k : Nat} (h : 40 ≤ k) : samphirelaw11_awake.f k = some true := by
 obtain ⟨j, rfl⟩ : ∃ j, k = 40 + j := ⟨k - 40, by omega⟩
 exact awake j
theorem same_loop (l : List S25) (hl : l.length ≤ 1000) (m : Nat) : ∀ (i k : Nat), i + m = l.length → m < k → samphireref10_Same.l0 k l l (i : Int) = some true := by
 induction m with
 | zero =>
  intro i k hi hk
  obtain ⟨k, rfl⟩ : ∃ j, k = j + 1 := ⟨k - 1, by omega⟩
  rw [samphireref10_Same.l0]
  exact iff_ (by omega) rfl
 | succ m ih =>
  intro i k hi hk
  obtain ⟨k, rfl⟩ : ∃ j, k = j + 1 := ⟨k - 1, by omega⟩
  have ew : wrap64 ((i : Int) + 1) = ((i + 1 : Nat) : Int) := by unfold wrap64; omega
  rw [samphireref10_Same.l0]
  refine ift (by omega) (ift (by omega) (ift (by omega) (iff_ (by simp) ?_)))
  rw [ew]
  exact ih (i + 1) k (by omega) (by omega)
theorem same_self (l : List S25) (hl : l.length ≤ 1000) (k : Nat) (hk : l.length < k) : samphireref10_Same.f k l l = some true := by
 unfold samphireref10_Same.f
 exact ift rfl (same_loop l hl l.length 0 k (by omega) hk)
theorem pop11_eq (h : List S25) (hw : Wf h) (hl : h.length ≤ 60) (hn : 0 < h.length) (k : Nat) (hk : 500 < k) : samphireref11_Pop.f k h = some (popL h) := by
 have e : wrap64 ((h.length : Int) - 1) = ((h.length - 1 : Nat) : Int) := by unfold wrap64; omega
 unfold samphireref11_Pop.f popL
 rw [e]
 by_cases h1 : h.length ≤ 1
 ·
  rw [if_pos h1]
  exact ift (by omega) rfl
 ·
  rw [if_neg h1]
  refine iff_ (by omega) (ift (by omega) (ift (by omega) ?_))
  rw [Int.toNat_natCast]
  have hlt : (h.take (h.length - 1)).length = h.length - 1 := by rw [List.length_take]; omega
  refine bnd (copied_eq _ (by omega)) (ift (by omega) (ift (by omega) ?_))
  rw [rd_at]
  have q := pop_out h (by omega)
  refine bnd (sink11_eq h.length ((h.take (h.length - 1)).set 0 (at_ h (h.length - 1))) 0 k (by rw [List.length_set, hlt]; omega) (by rw [List.length_set, hlt]; omega) (by rw [List.length_set, hlt]; omega) (cons_sub q (p := wfI) hw).2 (by omega)) rfl
def putL (h : List S25) (i : Nat) (x : S25) : List S25 := if 0 < i ∧ 0 < cq x (at_ h (up i)) then (liftF h.length (h.set i x) i).1 else sinkF h.length (h.set i x) i
theorem set_wf {h : List S25} (hw : Wf h) (i : Nat) (x : S25) (hx : wfI x) : Wf (h.set i x) := fun c hc => by
 rcases List.mem_or_eq_of_mem_set hc with h1 | h1
 ·
  exact hw c h1
 ·
  rw [h1]; exact hx
theorem put11_eq (h : List S25) (hw : Wf h) (hl : h.length ≤ 60) (i : Nat) (hi : i < h.length) (x : S25) (hx : wfI x) (k : Nat) (hk : 500 < k) : samphireref11_Put.f k h (i : Int) x.f0 x.f1 x.f2 = some (putL h i x) := by
 unfold samphireref11_Put.f putL
 have hs := set_wf hw i x hx
 have hsl : (h.set i x).length = h.length := List.length_set
 refine bnd (copied_eq h (by omega)) (ift (by omega) (ift (by omega) (bnd rfl ?_)))
 rw [Int.toNat_natCast]
 refine bnd (lift11_eq h.length (h.set i x) i k (by omega) (by omega) (by omega) hs (by omega)) ?_
 have hsink := sink11_eq h.length (h.set i x) i k (by omega) (by omega) (by omega) hs (by omega)
 by_cases h0 : 0 < i
 ·
  have hu : up i < i := by unfold up; omega
  rw [wup i h0 (by omega)]
  refine ift (by omega) (ift (by omega) (ift (by omega) ?_))
  rw [rd_at]
  refine bnd (rcmp_eq x _ hx (hw _ (at_mem (by omega)))) ?_
  by_cases hc : 0 < cq x (at_ h (up i))
  ·
   rw [if_pos (show 0 < i ∧ 0 < cq x (at_ h (up i)) from ⟨h0, hc⟩)]
   exact ift hc rfl
  ·
   rw [if_neg (show ¬ (0 < i ∧ 0 < cq x (at_ h (up i))) from fun g => hc g.2)]
   exact iff_ hc (bnd hsink rfl)
 ·
  rw [if_neg (show ¬ (0 < i ∧ 0 < cq x (at_ h (up i))) from fun g => h0 g.1)]
  exact iff_ (by omega) (bnd hsink rfl)
theorem put_eq (h : List S25) (hw : Wf h) (hl : h.length ≤ 60) (hh : Heap h) (i : Nat) (hi : i < h.length) (x : S25) (hx : wfI x) (ox : okI x) (k : Nat) (hk : 500 < k) : heap_Put.f k h (i : Int) x.f0 x.f1 x.f2 = some (putL h i x, 0) := by
 unfold heap_Put.f putL
 have hs := set_wf hw i x hx
 have hsl : (h.set i x).length = h.length := List.length_set
 refine bnd (right_yes hw (by omega) hh k (by omega)) (ift rfl (iff_ (by omega) (iff_ (by omega) (bnd (check_yes ox) (ift rfl (bnd (clone_eq h (by omega)) (ift (by omega) (ift (by omega) ?_))))))))
 rw [Int.toNat_natCast]
 refine bnd (lift_eq (i : Int) h.length (h.set i x) i k (by omega) (by omega) (by omega) hs (by omega)) ?_
 obtain ⟨hp, hle, hsame⟩ := lift_perm h.length (h.set i x) i (by omega)
 have ai : at_ (h.set i x) i = x := by rw [at_set _ _ _ _ hi, if_pos rfl]
 by_cases hc : 0 < i ∧ 0 < cq x (at_ h (up i))
 ·
  rw [if_pos hc]
  have au : at_ (h.set i x) (up i) = at_ h (up i) := by rw [at_set _ _ _ _ hi, if_neg (by have := hc.1; unfold up; omega)]
  have hne : (liftF h.length (h.set i x) i).2 ≠ i := fun e => by
   have := (hsame (by omega) e).2 hc.1
   rw [ai, au] at this
   omega
  exact ift (by simp; omega) rfl
 ·
  rw [if_neg hc]
  have hlift : ∀ n, liftF n (h.set i x) i = (h.set i x, i) := by
   intro n
   cases n with
   | zero => rfl
   | succ n =>
    rw [liftF, if_neg (fun g => ?_)]
    have au : at_ (h.set i x) (up i) = at_ h (up i) := by rw [at_set _ _ _ _ hi, if_neg (by have := g.1; unfold up; omega)]
    rw [ai, au] at g
    exact hc g
  rw [hlift]
  refine iff_ (by simp) ?_
  exact bnd (sink_eq h.length (h.set i x) i k (by omega) (by omega) (by omega) hs (by omega)) rfl
theorem check_no {x : S25} (h : ¬ okI x) : ∃ e, e ≠ 0 ∧ rank_Check.f x.f0 x.f1 x.f2 = some e := by
 rcases check_eq x with ⟨g, _⟩ | ⟨_, g⟩
 ·
  exact absurd g h
 ·
  exact g
theorem right_no {l : List S25} (hw : Wf l) (hl : l.length < 100000) (h : ¬ Heap l) (k : Nat) (hk : l.length + 5 < k) : heap_Right.f k l = some false := by
 obtain ⟨b, e, hb⟩ := right_eq l hw (by omega) k hk
 cases b with
 | true => exact absurd (hb.1 rfl) h
 | false => exact e
def lastP (l : List S25) (key : ByteArray) (i : Nat) : Int := if (l.drop i).findIdx (isKey key) < l.length - i then (((l.drop i).findIdx (isKey key) + i : Nat) : Int) else -1
theorem lastP_end (l : List S25) (key : ByteArray) : lastP l key l.length = -1 := by unfold lastP; rw [if_neg (by omega)]
theorem lastP_step (l : List S25) (key : ByteArray) (i : Nat) (hi : i < l.length) : lastP l key i = if isKey key (at_ l i) = true then (i : Int) else lastP l key (i + 1) := by
 have e0 : at_ l i = l[i] := by unfold at_; rw [List.getD_eq_getElem?_getD, List.getElem?_eq_getElem hi]; rfl
 have hd : l.drop i = at_ l i :: l.drop (i + 1) := by rw [e0, List.getElem_cons_drop]
 unfold lastP
 rw [hd, List.findIdx_cons]
 by_cases h : isKey key (at_ l i) = true
 ·
  rw [h, if_pos rfl]; simp; omega
 ·
  have hf : isKey key (at_ l i) = false := by simpa using h
  rw [if_neg h, hf]
  simp only [cond_false]
  by_cases h2 : (l.drop (i + 1)).findIdx (isKey key) < l.length - (i + 1)
  ·
   rw [if_pos (by omega), if_pos h2]; omega
  ·
   rw [if_neg (by omega), if_neg h2]
theorem nil_item : ((⟨#[]⟩ : ByteArray).toList == ([] : List UInt8) && ((0 : Int) == 0 && ((0 : Int) == 0))) = true := by rw [Lib.toList_data]; rfl
theorem nil_len : wrap64 ((([] : List S25).length : Int) + (([] : List S25).length : Int)) = 0 := by unfold wrap64; simp
section
variable (l : List S25) (hw : Wf l) (hl : l.length ≤ 60) (x : S25) (hx : wfI x) (a2 : Int) (key : ByteArray)
include hw hl
theorem t_j5 (q : List S25) (e bad : Int) (hin : ¬ (a2 < 0 ∨ (l.length : Int) ≤ a2) → (bad = 0 ∧ e = 0 ∧ (∀ k, 500 < k → samphireref11_Put.f k l a2 x.f0 x.f1 x.f2 = some q) ∧ q.length ≤ 60 ∧ Heap l) ∨ (bad ≠ 0 ∧ e = bad ∧ q = l))
  (hout : (a2 < 0 ∨ (l.length : Int) ≤ a2) → e = 3 ∧ q = l) (b : Bool) (hb : b = decide (a2 < 0 ∨ (l.length : Int) ≤ a2)) (k : Nat) (hk : 700 < k) :
  samphirelaw11_HeapTells.j5 k l a2 q e bad b x.f0 x.f1 x.f2 = some true := by
 obtain ⟨k, rfl⟩ : ∃ j, k = j + 1 := ⟨k - 1, by omega⟩
 rw [samphirelaw11_HeapTells.j5]
 by_cases h : a2 < 0 ∨ (l.length : Int) ≤ a2
 ·
  obtain ⟨h1, h2⟩ := hout h
  subst h1 h2
  rw [hb, decide_eq_true h]
  exact ift rfl (ift rfl (bnd (same_self _ (by omega) k (by omega)) (ift rfl (bnd (awake' (by omega)) rfl))))
 ·
  rw [hb, decide_eq_false h]
  refine iff_ (by decide) ?_
  rcases hin h with ⟨h1, h2, h3, h4, h5⟩ | ⟨h1, h2, h3⟩
  ·
   subst h1 h2
   exact ift rfl (ift rfl (bnd (h3 k (by omega)) (bnd (same_self _ (by omega) k (by omega)) (ift rfl (bnd (right_yes hw (by omega) h5 k (by omega)) (ift rfl (bnd (awake' (by omega)) rfl)))))))
  ·
   subst h2 h3
   exact iff_ h1 (ift rfl (bnd (same_self _ (by omega) k (by omega)) (ift rfl (bnd (awake' (by omega)) rfl))))
omit hw hl in
theorem t_j4 (q : List S25) (e bad : Int) (h5 : ∀ (b : Bool), b = decide (a2 < 0 ∨ (l.length : Int) ≤ a2) → ∀ k, 700 < k → samphirelaw11_HeapTells.j5 k l a2 q e bad b x.f0 x.f1 x.f2 = some true) (k : Nat) (hk : 800 < k) :
  samphirelaw11_HeapTells.j4 k l a2 q e bad false x.f0 x.f1 x.f2 = some true := by
 obtain ⟨k, rfl⟩ : ∃ j, k = j + 1 := ⟨k - 1, by omega⟩
 rw [samphirelaw11_HeapTells.j4]
 refine iff_ (by decide) ?_
 by_cases h : a2 < 0
 ·
  rw [if_pos h]
  exact h5 true (by rw [decide_eq_true (Or.inl h)]) k (by omega)
 ·
  rw [if_neg h]
  refine h5 _ ?_ k (by omega)
  by_cases h2 : (l.length : Int) ≤ a2
  ·
   rw [decide_eq_true (Or.inr h2)]; exact decide_eq_true h2
  ·
   rw [decide_eq_false (show ¬ (a2 < 0 ∨ (l.length : Int) ≤ a2) from fun g => g.elim h h2)]; exact decide_eq_false h2
omit hw in
theorem t_l0 (q : List S25) (e bad : Int) (at' : Int) (ok : Bool) (h1 : ok = decide (lastP l key 0 ≥ 0)) (h2 : at' = mx (lastP l key 0) 0) (h4 : ∀ k, 800 < k → samphirelaw11_HeapTells.j4 k l a2 q e bad false x.f0 x.f1 x.f2 = some true) (i : Nat) :
  ∀ k, i ≤ l.length → i + 900 < k → samphirelaw11_HeapTells.l0 k l a2 key q e at' ok bad (lastP l key i) ((i : Int) - 1) x.f0 x.f1 x.f2 = some true := by
 induction i with
 | zero =>
  intro k hi hk
  obtain ⟨k, rfl⟩ : ∃ j, k = j + 1 := ⟨k - 1, by omega⟩
  rw [samphirelaw11_HeapTells.l0]
  refine iff_ (by decide) (iff_ (by rw [h1]; simp) ?_)
  rw [show (at' != mx (lastP l key 0) 0) = false by rw [h2]; simp]
  exact h4 k (by omega)
 | succ i ih =>
  intro k hi hk
  obtain ⟨k, rfl⟩ : ∃ j, k = j + 1 := ⟨k - 1, by omega⟩
  have ei : ((i + 1 : Nat) : Int) - 1 = (i : Int) := by omega
  have ew : wrap64 ((i : Int) - 1) = (i : Int) - 1 := by unfold wrap64; omega
  rw [ei, samphirelaw11_HeapTells.l0, ew]
  refine ift (by omega) (ift (by omega) (ift (by omega) ?_))
  rw [rd_at]
  have IH := ih k (by omega) (by omega)
  rw [lastP_step l key i (by omega)] at IH
  by_cases hq : isKey key (at_ l i) = true
  ·
   rw [if_pos hq] at IH
   refine ift ?_ IH
   unfold isKey at hq
   exact beq_iff_eq.1 hq
  ·
   rw [if_neg hq] at IH
   refine iff_ (fun g => hq ?_) IH
   unfold isKey
   exact beq_iff_eq.2 g
include hx
theorem t_heap (hh : Heap l) (k : Nat) (hk : 3000 < k) : samphirelaw11_HeapTells.j0 k l a2 key false x.f0 x.f1 x.f2 = some true := by
 obtain ⟨k, rfl⟩ : ∃ j, k = j + 2 := ⟨k - 2, by omega⟩
 obtain ⟨r11, hr11, hri⟩ := right11_eq l hw (by omega) (k + 1) (by omega)
 obtain rfl := hri.2 hh
 obtain ⟨q, e, hput, hin0, hout⟩ : ∃ q e, heap_Put.f (k + 1) l a2 x.f0 x.f1 x.f2 = some (q, e) ∧ (¬ (a2 < 0 ∨ (l.length : Int) ≤ a2) → ∀ bad, rank_Check.f x.f0 x.f1 x.f2 = some bad → (bad = 0 ∧ e = 0 ∧ (∀ k, 500 < k → samphireref11_Put.f k l a2 x.f0 x.f1 x.f2 = some q) ∧ q.length ≤ 60 ∧ Heap l) ∨ (bad ≠ 0 ∧ e = bad ∧ q = l)) ∧ ((a2 < 0 ∨ (l.length : Int) ≤ a2) → e = 3 ∧ q = l) := by
  by_cases h : a2 < 0 ∨ (l.length : Int) ≤ a2
  ·
   refine ⟨l, 3, ?_, fun g => absurd h g, fun _ => ⟨rfl, rfl⟩⟩
   unfold heap_Put.f
   refine bnd (right_yes hw (by omega) hh (k + 1) (by omega)) (ift rfl ?_)
   by_cases h1 : a2 < 0
   ·
    exact ift h1 rfl
   ·
    exact iff_ h1 (ift (by omega) rfl)
  ·
   obtain ⟨i, rfl⟩ : ∃ i : Nat, a2 = i := ⟨a2.toNat, by omega⟩
   by_cases ox : okI x
   ·
    refine ⟨putL l i x, 0, put_eq l hw hl hh i (by omega) x hx ox (k + 1) (by omega), fun _ bad hbad => .inl ?_, fun g => absurd g h⟩
    rw [check_yes ox] at hbad
    refine ⟨(Option.some.inj hbad).symm, rfl, fun k hk => put11_eq l hw hl i (by omega) x hx k hk, ?_, hh⟩
    have hsl : (l.set i x).length = l.length := List.length_set
    unfold putL
    split
    ·
     rw [(lift_perm l.length (l.set i x) i (by omega)).1.length_eq]; omega
    ·
     rw [(sink_perm l.length (l.set i x) i (by omega)).length_eq]; omega
   ·
    obtain ⟨er, he, hc⟩ := check_no ox
    refine ⟨l, er, ?_, fun _ bad hbad => .inr ?_, fun g => absurd g h⟩
    ·
     unfold heap_Put.f
     exact bnd (right_yes hw (by omega) hh (k + 1) (by omega)) (ift rfl (iff_ (by omega) (iff_ (by omega) (bnd hc (iff_ he rfl)))))
    ·
     rw [hc] at hbad
     obtain rfl := Option.some.inj hbad
     exact ⟨he, rfl, rfl⟩
 obtain ⟨at', ok, hfind, h1, h2⟩ : ∃ at' ok, heap_Find.f (k + 1) l key = some (at', ok) ∧ ok = decide (lastP l key 0 ≥ 0) ∧ at' = mx (lastP l key 0) 0 := by
  by_cases hf : l.findIdx (isKey key) < l.length
  ·
   refine ⟨((l.findIdx (isKey key) : Nat) : Int), true, ?_, ?_, ?_⟩
   ·
    unfold heap_Find.f
    exact ift (by omega) (bnd (right_yes hw (by omega) hh (k + 1) (by omega)) (ift rfl (ift hf rfl)))
   ·
    unfold lastP; rw [List.drop_zero, Nat.sub_zero, if_pos hf]; exact (decide_eq_true (by omega)).symm
   ·
    unfold lastP mx; rw [List.drop_zero, Nat.sub_zero, if_pos hf]; omega
  ·
   refine ⟨0, false, ?_, ?_, ?_⟩
   ·
    unfold heap_Find.f
    exact ift (by omega) (bnd (right_yes hw (by omega) hh (k + 1) (by omega)) (ift rfl (iff_ hf rfl)))
   ·
    unfold lastP; rw [List.drop_zero, Nat.sub_zero, if_neg hf]; rfl
   ·
    unfold lastP mx; rw [List.drop_zero, Nat.sub_zero, if_neg hf]; rfl
 have rest : ∀ bad, rank_Check.f x.f0 x.f1 x.f2 = some bad → ∀ y0 y1 y2 r pe, heap_Pop.f (k + 1) l = some (y0, y1, y2, r, pe) → samphirelaw11_HeapTells.j1 (k + 1) l a2 key r pe q e at' ok bad false x.f0 x.f1 x.f2 y0 y1 y2 = some true := by
  intro bad hbad y0 y1 y2 r pe hpop
  rw [samphirelaw11_HeapTells.j1]
  refine iff_ (by decide) ?_
  by_cases hn : l.length = 0
  ·
   obtain rfl := List.eq_nil_of_length_eq_zero hn
   rw [pop_nil (k + 1) (by omega)] at hpop
   simp only [Option.some.injEq, Prod.mk.injEq] at hpop
   obtain ⟨rfl, rfl, rfl, rfl, rfl⟩ := hpop
   obtain ⟨rfl, rfl⟩ := hout (by simp; omega)
   have e0 : lastP [] key 0 = -1 := lastP_end [] key
   rw [e0] at h1 h2
   subst h1 h2
   exact ift rfl (bnd (right_yes hw (by omega) hh k (by omega)) (ift rfl (ift rfl (ift rfl (ift nil_item (ift nil_len (ift rfl (iff_ (by decide) (bnd (awake' (by omega)) rfl)))))))))
  ·
   rw [pop_eq hw (by omega) hh (by omega) (k + 1) (by omega)] at hpop
   simp only [Option.some.injEq, Prod.mk.injEq] at hpop
   obtain ⟨rfl, rfl, rfl, rfl, rfl⟩ := hpop
   have r0 : rd_T25 l 0 = at_ l 0 := rd_at l 0
   refine iff_ (by omega) (ift (by omega) ?_)
   rw [r0]
   refine iff_ (by simp) (ift rfl (bnd (pop11_eq l hw hl (by omega) k (by omega)) ?_))
   have hpl := pop_length l (by omega)
   refine bnd (same_self _ (by omega) k (by omega)) ?_
   obtain ⟨k, rfl⟩ : ∃ j, k = j + 1 := ⟨k - 1, by omega⟩
   rw [samphirelaw11_HeapTells.j2]
   refine iff_ (by decide) ?_
   have ew : wrap64 ((l.length : Int) - 1) = (l.length : Int) - 1 := by unfold wrap64; omega
   rw [ew]
   have := t_l0 l hl x a2 key q e bad at' ok h1 h2 (fun k hk => t_j4 l x a2 q e bad (fun b hb k hk => t_j5 l hw hl x a2 q e bad (fun g => hin0 g bad hbad) hout b hb k hk) k hk) l.length k (Nat.le_refl _) (by omega)
   rw [lastP_end] at this
   exact this
 obtain ⟨y0, y1, y2, r, pe, hpop⟩ : ∃ y0 y1 y2 r pe, heap_Pop.f (k + 1) l = some (y0, y1, y2, r, pe) := by
  by_cases hn : l.length = 0
  ·
   obtain rfl := List.eq_nil_of_length_eq_zero hn
   exact ⟨_, _, _, _, _, pop_nil (k + 1) (by omega)⟩
  ·
   exact ⟨_, _, _, _, _, pop_eq hw (by omega) hh (by omega) (k + 1) (by omega)⟩
 rw [show k + 2 = (k + 1) + 1 from rfl, samphirelaw11_HeapTells.j0]
 refine iff_ (by decide) ?_
 by_cases ox : okI x
 ·
  refine bnd (push_eq x hw hx (by omega) hh ox (k + 1) (by omega)) (bnd hpop (bnd hput (bnd hfind (bnd hr11 (ift rfl (bnd (check_yes ox) (ift rfl (ift rfl (bnd rfl (ift (by simp; omega) (bnd rfl (bnd rfl (ift (by simp; omega) ?_)))))))))))))
  rw [List.nil_append]
  have hla : (l ++ [x]).length = l.length + 1 := by rw [List.length_append]; rfl
  have hlf := lift11_eq l.length (l ++ [x]) l.length (k + 1) (by omega) (Nat.le_refl _) (by omega) (app_wf hw hx) (by omega)
  refine bnd hlf ?_
  have hpl := push_length l x
  refine bnd (same_self (pushL l x) (by omega) (k + 1) (by omega)) ?_
  exact rest 0 (check_yes ox) _ _ _ _ _ hpop
 ·
  obtain ⟨er, he, hc⟩ := check_no ox
  have hpush : heap_Push.f (k + 1) l x.f0 x.f1 x.f2 = some (l, er) := by
   unfold heap_Push.f
   exact bnd (right_yes hw (by omega) hh (k + 1) (by omega)) (ift rfl (bnd hc (iff_ he rfl)))
  refine bnd hpush (bnd hpop (bnd hput (bnd hfind (bnd hr11 (ift rfl (bnd hc (ift rfl (iff_ he (bnd (same_self l (by omega) (k + 1) (by omega)) (ift rfl ?_))))))))))
  exact rest er hc _ _ _ _ _ hpop
omit hx in
theorem t_no (hh : ¬ Heap l) (k : Nat) (hk : 3000 < k) : samphirelaw11_HeapTells.j0 k l a2 key false x.f0 x.f1 x.f2 = some true := by
 obtain ⟨k, rfl⟩ : ∃ j, k = j + 1 := ⟨k - 1, by omega⟩
 obtain ⟨r11, hr11, hri⟩ := right11_eq l hw (by omega) k (by omega)
 have hrf : r11 = false := by cases r11 with | true => exact absurd (hri.1 rfl) hh | false => rfl
 subst hrf
 have hno := right_no hw (by omega) hh k (by omega)
 have h1 : heap_Push.f k l x.f0 x.f1 x.f2 = some (l, 1) := by unfold heap_Push.f; exact bnd hno (iff_ (by decide) rfl)
 have h2 : heap_Pop.f k l = some (⟨#[]⟩, 0, 0, l, 1) := by unfold heap_Pop.f; exact bnd hno (iff_ (by decide) rfl)
 have h3 : heap_Put.f k l a2 x.f0 x.f1 x.f2 = some (l, 1) := by unfold heap_Put.f; exact bnd hno (iff_ (by decide) rfl)
 have h4 : heap_Find.f k l key = some (0, false) := by unfold heap_Find.f; exact ift (by omega) (bnd hno (iff_ (by decide) rfl))
 have hs := same_self l (by omega) k (by omega)
 rw [samphirelaw11_HeapTells.j0]
 exact iff_ (by decide) (bnd h1 (bnd h2 (bnd h3 (bnd h4 (bnd hr11 (iff_ (by decide) (bnd hno (iff_ (by decide) (ift rfl (ift rfl (ift rfl (bnd hs (ift rfl (bnd hs (ift rfl (bnd hs (ift rfl (ift nil_item (ift rfl (iff_ (by decide) (bnd (awake' (by omega)) rfl)))))))))))))))))))))
end
theorem heapTells (l : List S25) (hw : Wf l) (hl0 : l.length ≤ 9223372036854775807) (x : S25) (hx : wfI x) (a2 : Int) (key : ByteArray) : ∃ k, samphirelaw11_HeapTells.f k l x.f0 x.f1 x.f2 a2 key = some true := by
 refine ⟨l.length + 5000, ?_⟩
 have out : samphirelaw11_HeapTells.j0 (l.length + 5000) l a2 key true x.f0 x.f1 x.f2 = some true := by
  rw [show l.length + 5000 = (l.length + 4999) + 1 from rfl, samphirelaw11_HeapTells.j0]
  exact ift rfl (bnd (awake' (by omega)) rfl)
 unfold samphirelaw11_HeapTells.f
 obtain ⟨b, hb, hb2⟩ := small_eq l (l.length + 5000) (by omega)
 refine bnd hb ?_
 cases b with
 | false => exact iff_ (by decide) out
 | true =>
  have h60 := hb2 rfl
  have inn : samphirelaw11_HeapTells.j0 (l.length + 5000) l a2 key false x.f0 x.f1 x.f2 = some true := by
   by_cases hh : Heap l
   ·
    exact t_heap l hw h60 x hx a2 key hh _ (by omega)
   ·
    exact t_no l hw h60 x a2 key hh _ (by omega)
  refine ift rfl ?_
  by_cases h1 : (x.f0.size : Int) > 100
  ·
   exact ift h1 out
  ·
   refine iff_ h1 ?_
   by_cases h2 : (key.size : Int) > 100
   ·
    rw [decide_eq_true h2]; exact out
   ·
    rw [decide_eq_false h2]; exact inn
theorem heapTells_walk (A : Option Addr) (c : Nat) (l : List S25) (x : S25) (i : Int) (key : ByteArray) (W : World) (hr : Kd.C k25 W A l.length l) (hc : l.length ≤ c) (hw : ∀ x ∈ l, wfI x) (hl : l.length ≤ 9223372036854775807) (hx : wfI x) (hi : (Lit.int .i64 i).wf = true) :
  Calls Try.prog 3 #[.slice A l.length c, .agg #[.string x.f0, .int .u64 x.f1, .int .u64 x.f2], .int .i64 i, .string key] W fun e W' => e = .returned (.bool true) ∧ Below W.heap.size W W' := by
 obtain ⟨k, hk⟩ := heapTells l hw hl x hx i key
 exact samphirelaw11_HeapTells.calls k A c l x.f0 x.f1 x.f2 i key true W hr hc hk
end Go.Proofs.Ytobdhjnaglikaaa.Pure
