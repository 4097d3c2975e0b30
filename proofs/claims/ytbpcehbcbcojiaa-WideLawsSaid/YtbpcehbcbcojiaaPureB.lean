/- Sums, products, quotients, texts of numbers of 128 bits: the laws' words over plain numbers. -/
import Derived.Test.YtbpcehbcbcojiaaPureA
namespace Go.Proofs.Ytbpcehbcbcojiaa
open Go.RowKit Go.Proofs.YtbpcehbcbcojiaaW.PrintWords Go.Proofs.YtbpcehbcbcojiaaW.PrintLast Go.Proofs.YtbpcehbcbcojiaaW.PrintMore
open Dec
set_option linter.unusedVariables false
abbrev hi (n : Nat) : Int := ((HI n : Nat) : Int)
abbrev lo (n : Nat) : Int := ((LO n : Nat) : Int)
theorem arg {a b : Int} (h : (Lit.int .u64 a).wf = true) (k : (Lit.int .u64 b).wf = true) : ∃ n, n < M128 ∧ a = hi n ∧ b = lo n := by
  obtain ⟨x, rfl, hx⟩ := wf_nat h
  obtain ⟨y, rfl, hy⟩ := wf_nat k
  exact ⟨V x y, V_lt hx hy, by unfold hi; rw [HI_V hy], by unfold lo; rw [LO_V hy]⟩
theorem rng {n : Nat} (h : n < M128) : in64 (hi n) ∧ in64 (lo n) := ⟨in64_nat (HI_lt h), in64_nat (LO_lt n)⟩
theorem add_f (n m : Nat) (hn : n < M128) (hm : m < M128) : Q.wide_Add.f (hi n) (lo n) (hi m) (lo m) = some (sized (n + m)) := by
  unfold Q.wide_Add.f; rw [if_pos ⟨(rng hn).1, (rng hn).2, (rng hm).1, (rng hm).2⟩, val_HILO, val_HILO]
theorem mul_f (n m : Nat) (hn : n < M128) (hm : m < M128) : Q.wide_Mul.f (hi n) (lo n) (hi m) (lo m) = some (sized (n * m)) := by
  unfold Q.wide_Mul.f; rw [if_pos ⟨(rng hn).1, (rng hn).2, (rng hm).1, (rng hm).2⟩, val_HILO, val_HILO]
theorem sub_f' (n m : Nat) (hn : n < M128) (hm : m < M128) : Q.wide_Sub.f (hi n) (lo n) (hi m) (lo m) = some (if m ≤ n then (hi (n - m), lo (n - m), true) else (0, 0, false)) := by
  unfold Q.wide_Sub.f; rw [if_pos ⟨(rng hn).1, (rng hn).2, (rng hm).1, (rng hm).2⟩, val_HILO, val_HILO]
theorem cmp_f' (n m : Nat) (hn : n < M128) (hm : m < M128) : Q.wide_Cmp.f (hi n) (lo n) (hi m) (lo m) = some (cmpR n m) := by
  unfold Q.wide_Cmp.f; rw [if_pos ⟨(rng hn).1, (rng hn).2, (rng hm).1, (rng hm).2⟩, val_HILO, val_HILO]
theorem quo_f (n m : Nat) (hn : n < M128) (hm : m < M128) : Q.wide_Div.f (hi n) (lo n) (hi m) (lo m) = some (Q.quo n m) := by
  unfold Q.wide_Div.f; rw [if_pos ⟨(rng hn).1, (rng hn).2, (rng hm).1, (rng hm).2⟩, val_HILO, val_HILO]
theorem quo_pos (n m : Nat) (h : m ≠ 0) : Q.quo n m = (hi (n / m), lo (n / m), hi (n % m), lo (n % m), true) := by unfold Q.quo; rw [if_neg h]
theorem text_f' (n : Nat) (hn : n < M128) : Q.wide_Text.f (hi n) (lo n) = some (str (text n)) := by
  unfold Q.wide_Text.f; rw [if_pos (rng hn), val_HILO]
theorem sized_lt {n : Nat} (h : n < M128) : sized n = (hi n, lo n, true) := by unfold sized; exact if_pos h
theorem sized_ge {n : Nat} (h : ¬ n < M128) : sized n = (0, 0, false) := by unfold sized; exact if_neg h
theorem small {n : Nat} (h : W64 n) : hi n = 0 ∧ lo n = (n : Int) := by
  refine ⟨?_, ?_⟩
  · show ((HI n : Nat) : Int) = 0; unfold HI; unfold W64 at h; omega
  · show ((LO n : Nat) : Int) = n; unfold LO; unfold W64 at h; omega
theorem eqb (n m : Nat) : ((hi n == hi m) && (lo n == lo m)) = decide (n = m) := by
  by_cases h : n = m
  · subst h; rw [decide_eq_true rfl]; simp
  · rw [decide_eq_false h]
    rw [Bool.and_eq_false_iff]
    by_cases k : HI n = HI m
    · right
      simp only [beq_eq_false_iff_ne, ne_eq]
      intro e
      apply h
      rw [← V_HILO n, ← V_HILO m, k, show LO n = LO m by unfold lo at e; omega]
    · left
      simp only [beq_eq_false_iff_ne, ne_eq]
      unfold hi; omega
theorem eqb_self (n : Nat) : ((hi n == hi n) && (lo n == lo n)) = true := by simp
theorem ne_self (n : Nat) : ((!(hi n == hi n)) || (!(lo n == lo n))) = false := by simp
theorem fold_ge (l : List Nat) : ∀ n, n ≤ l.foldl (fun n d => 10 * n + d) n := by
  induction l with
  | nil => intro n; exact Nat.le_refl _
  | cons d l ih => intro n; exact Nat.le_trans (by omega) (ih (10 * n + d))
theorem readL_digs (l : List Nat) (hl : ∀ d ∈ l, d < 10) : ∀ n, n < M128 → readL (l.map (48 + ·)) n = if l.foldl (fun n d => 10 * n + d) n < M128 then some (l.foldl (fun n d => 10 * n + d) n) else none := by
  induction l with
  | nil => intro n hn; rw [List.foldl_nil, if_pos hn]; rfl
  | cons d l ih =>
    intro n hn
    have hd := hl d (List.mem_cons_self ..)
    have IH := ih (fun x hx => hl x (List.mem_cons_of_mem _ hx))
    rw [List.map_cons]
    unfold readL
    rw [if_neg (by omega), show 48 + d - 48 = d by omega, List.foldl_cons]
    by_cases h : 10 * n + d < M128
    · rw [if_pos h]; exact IH _ h
    · rw [if_neg h, if_neg]
      exact fun hh => h (Nat.lt_of_le_of_lt (fold_ge l _) hh)
theorem read_text (n : Nat) : read (text n) = if n < M128 then some n else none := by
  have hr := readL_digs (digs n) (digs_dig n) 0 (by decide)
  have hf : (digs n).foldl (fun n d => 10 * n + d) 0 = n := num_digs n
  rw [hf] at hr
  unfold read
  rw [if_neg]
  · exact hr
  · rintro (h | ⟨h, h2⟩)
    · unfold text at h; exact digs_ne n (List.map_eq_nil_iff.1 h)
    · unfold text at h h2
      rw [List.head?_map] at h
      cases hx : (digs n).head? with
      | none => rw [hx] at h; cases h
      | some d =>
        rw [hx] at h
        have hd : d = 0 := by have : 48 + d = 48 := Option.some.inj h; omega
        subst hd
        have := digs_head n hx
        subst this
        rw [digs_lt (by decide)] at h2
        simp at h2
theorem told_some (n : Nat) : told (some n) = (hi n, lo n, true) := rfl
theorem text_size {n : Nat} (h : n < M128) : (str (text n)).size ≤ 39 := by
  rw [str_size]; unfold text; rw [List.length_map]; exact digs_len39 h
theorem readT (n : Nat) (h : n < M128) : Q.wide_Read.f (str (text n)) = some (hi n, lo n, true) := by
  unfold Q.wide_Read.f
  rw [if_pos (Nat.lt_of_le_of_lt (text_size h) (by decide)), bs_str _ (text_lt n), read_text, if_pos h]; rfl
end Go.Proofs.Ytbpcehbcbcojiaa
