/- WideOrder, over plain numbers: a number is less than another one just if it cannot be taken from, and their texts stand so, too. -/
import Derived.Test.YtbpcehbcbcojiaaPureB
import Derived.Test.YtbpcehbcbcojiaaQx10
import Derived.Lib.Strings
import Derived.Sort.Walk0
namespace Go.Proofs.Ytbpcehbcbcojiaa.Pure
open Go.RowKit Go.Proofs.Ytbpcehbcbcojiaa.Q Go.Proofs.YtbpcehbcbcojiaaW.PrintWords Go.Proofs.YtbpcehbcbcojiaaW.PrintLast Dec
def fold (l : List Nat) (n : Nat) : Nat := l.foldl (fun n d => 10 * n + d) n
theorem fold_cons (d : Nat) (l : List Nat) (n : Nat) : fold (d :: l) n = fold l (10 * n + d) := rfl
theorem fold_lt : ∀ (l m : List Nat) (x y : Nat), l.length = m.length → (∀ d ∈ l, d < 10) → x < y → fold l x < fold m y
  | [], [], x, y, _, _, h => h
  | d :: l, e :: m, x, y, hl, hd, h => by
    rw [fold_cons, fold_cons]
    have := hd d (List.mem_cons_self ..)
    exact fold_lt l m _ _ (by simpa using hl) (fun z hz => hd z (List.mem_cons_of_mem _ hz)) (by omega)
  | [], _ :: _, _, _, hl, _, _ => by simp at hl
  | _ :: _, [], _, _, hl, _, _ => by simp at hl
theorem lex : ∀ (l m : List Nat) (x : Nat), l.length = m.length → (∀ d ∈ l, d < 10) → (∀ d ∈ m, d < 10) → ((l.map fun d => UInt8.ofNat (48 + d)) < (m.map fun d => UInt8.ofNat (48 + d)) ↔ fold l x < fold m x)
  | [], [], x, _, _, _ => by simp [fold]
  | d :: l, e :: m, x, hl, hd, he => by
    have h1 := hd d (List.mem_cons_self ..)
    have h2 := he e (List.mem_cons_self ..)
    have hl' : l.length = m.length := by simpa using hl
    have hd' := fun z hz => hd z (List.mem_cons_of_mem _ hz)
    have he' := fun z hz => he z (List.mem_cons_of_mem _ hz)
    have t1 : (UInt8.ofNat (48 + d)).toNat = 48 + d := UInt8.toNat_ofNat_of_lt' (show 48 + d < 256 by omega)
    have t2 : (UInt8.ofNat (48 + e)).toNat = 48 + e := UInt8.toNat_ofNat_of_lt' (show 48 + e < 256 by omega)
    rw [List.map_cons, List.map_cons, List.cons_lt_cons_iff, fold_cons, fold_cons, UInt8.lt_iff_toNat_lt, ← UInt8.toNat_inj, t1, t2]
    rcases Nat.lt_trichotomy d e with h | h | h
    · exact ⟨fun _ => fold_lt l m _ _ hl' hd' (by omega), fun _ => Or.inl (by omega)⟩
    · subst h
      rw [lex l m (10 * x + d) hl' hd' he']
      exact ⟨fun k => k.elim (fun k => absurd k (by omega)) (fun k => k.2), fun k => Or.inr ⟨rfl, k⟩⟩
    · have := fold_lt m l (10 * x + e) (10 * x + d) hl'.symm he' (by omega)
      exact ⟨fun k => k.elim (fun k => absurd k (by omega)) (fun k => absurd k.1 (by omega)), fun k => absurd k (by omega)⟩
  | [], _ :: _, _, hl, _, _ => by simp at hl
  | _ :: _, [], _, hl, _, _ => by simp at hl
theorem str_list (n : Nat) : (str (text n)).toList = (digs n).map fun d => UInt8.ofNat (48 + d) := by
  rw [Lib.toList_data]
  unfold str
  rw [strOfNums_data]
  unfold text
  rw [List.map_map, List.map_map]
  apply List.map_congr_left
  intro d _
  simp only [Function.comp, Int.toNat_natCast]
theorem less (n m : Nat) (h : (digs n).length = (digs m).length) : Op.bytesLess (str (text n)).toList (str (text m)).toList = decide (n < m) := by
  rw [bytesLess_eq, str_list, str_list]
  have := lex (digs n) (digs m) 0 h (digs_dig n) (digs_dig m)
  rw [show fold (digs n) 0 = n from num_digs n, show fold (digs m) 0 = m from num_digs m] at this
  exact decide_eq_decide.2 this
theorem len_mono {n m : Nat} (h : m ≤ n) : (digs m).length ≤ (digs n).length := by
  have hp := List.length_pos_iff.2 (digs_ne n)
  obtain ⟨k, hk⟩ : ∃ k, (digs n).length = k + 1 := ⟨(digs n).length - 1, by omega⟩
  rw [hk, digs_len]
  exact Nat.lt_of_le_of_lt h ((digs_len n k).1 (by omega))
theorem size_text (n : Nat) : (str (text n)).size = (digs n).length := by rw [str_size]; unfold text; rw [List.length_map]
theorem cmpR_neg (n m : Nat) : cmpR n m = wrap64 (-(cmpR m n)) := by
  unfold cmpR
  rcases Nat.lt_trichotomy n m with h | h | h
  · rw [if_pos h, if_neg (by omega), if_pos h]; unfold wrap64; omega
  · subst h; rw [if_neg (by omega), if_neg (by omega)]; unfold wrap64; omega
  · rw [if_neg (by omega), if_pos h, if_pos h]; unfold wrap64; omega
theorem cmp_ge (n m : Nat) : decide (cmpR n m ≥ 0) = decide (m ≤ n) := by
  unfold cmpR; rw [decide_eq_decide]; split <;> (try split) <;> constructor <;> intro _ <;> omega
theorem cmp_le (n m : Nat) : decide (cmpR n m ≤ 0) = decide (n ≤ m) := by
  unfold cmpR; rw [decide_eq_decide]; split <;> (try split) <;> constructor <;> intro _ <;> omega
theorem cmp_lt (n m : Nat) : decide (cmpR n m < 0) = decide (n < m) := by
  unfold cmpR; rw [decide_eq_decide]; split <;> (try split) <;> constructor <;> intro _ <;> omega
theorem cmp_eq (n m : Nat) : (cmpR n m == 0) = decide (n = m) := by
  unfold cmpR
  rcases Nat.lt_trichotomy n m with h | h | h
  · rw [if_pos h, decide_eq_false (by omega)]; rfl
  · subst h; rw [if_neg (by omega), if_neg (by omega), decide_eq_true rfl]; rfl
  · rw [if_neg (by omega), if_pos h, decide_eq_false (by omega)]; rfl
theorem flag (n m : Nat) : (if m ≤ n then (hi (n - m), lo (n - m), true) else (0, 0, false) : Int × Int × Bool).2.2 = decide (m ≤ n) := by
  by_cases h : m ≤ n
  · rw [if_pos h, decide_eq_true h]
  · rw [if_neg h, decide_eq_false h]
theorem WideOrder (a0 a1 b0 b1 : Int) (h0 : (Lit.int .u64 a0).wf = true) (h1 : (Lit.int .u64 a1).wf = true) (h2 : (Lit.int .u64 b0).wf = true) (h3 : (Lit.int .u64 b1).wf = true) : samphirelaw01_WideOrder.f a0 a1 b0 b1 = some true := by
  obtain ⟨n, hn, rfl, rfl⟩ := arg h0 h1
  obtain ⟨m, hm, rfl, rfl⟩ := arg h2 h3
  unfold samphirelaw01_WideOrder.f
  refine D.bnd (sub_f' n m hn hm) (D.bnd (sub_f' m n hm hn) (D.bnd (cmp_f' n m hn hm) (D.bnd (text_f' n hn) (D.bnd (text_f' m hm) ?_))))
  rw [flag, flag, cmp_ge, cmp_le, cmp_lt, cmp_eq, eqb, size_text, size_text]
  have hfin : ((wide_Cmp.f (hi m) (lo m) (hi n) (lo n)).bind fun t => (if cmpR n m = (wrap64 (-t)) then ((samphirelaw01_awake.f).bind fun t275 => (some t275)) else (none))) = some true := by
    refine D.bnd (cmp_f' m n hm hn) ?_
    rw [if_pos (cmpR_neg n m)]
    exact D.bnd awake rfl
  by_cases hl : (digs n).length < (digs m).length
  · rw [if_pos (by omega)]
    have hlt : n < m := by
      rcases Nat.lt_or_ge n m with h | h
      · exact h
      · have := len_mono h; omega
    refine D.ift (by simp) (D.ift (by simp) (D.ift (by simp) (D.ift (by rw [decide_eq_true hlt]; rfl) ?_)))
    exact hfin
  · rw [if_neg (by omega)]
    by_cases he : (digs n).length = (digs m).length
    · rw [if_pos (by omega), less n m he]
      refine D.ift (by simp) (D.ift (by simp) (D.ift (by simp) (D.ift (by simp) ?_)))
      exact hfin
    · rw [if_neg (by omega)]
      have hlt : ¬ n < m := fun h => by have := len_mono (Nat.le_of_lt h); omega
      refine D.ift (by simp) (D.ift (by simp) (D.ift (by simp) (D.ift (by rw [decide_eq_false hlt]; rfl) ?_)))
      exact hfin
theorem wideOrder_walk (a0 a1 b0 b1 : Int) (W : World) (h0 : (Lit.int .u64 a0).wf = true) (h1 : (Lit.int .u64 a1).wf = true) (h2 : (Lit.int .u64 b0).wf = true) (h3 : (Lit.int .u64 b1).wf = true) :
    Calls Try.prog 10 #[.agg #[.int .u64 a0, .int .u64 a1], .agg #[.int .u64 b0, .int .u64 b1]] W fun e w' => e = .returned (.bool true) ∧ Below W.heap.size W w' :=
  samphirelaw01_WideOrder.calls a0 a1 b0 b1 true W (WideOrder a0 a1 b0 b1 h0 h1 h2 h3)
end Go.Proofs.Ytbpcehbcbcojiaa.Pure
