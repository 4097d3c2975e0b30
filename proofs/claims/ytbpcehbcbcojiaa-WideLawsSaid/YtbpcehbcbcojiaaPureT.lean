/- Decimal digits, in plain words: a number's text, and a text's number. -/
namespace Go.Proofs.Ytbpcehbcbcojiaa.Dec
/-- a number's decimal digits -/
def digs (n : Nat) : List Nat := if n < 10 then [n] else digs (n / 10) ++ [n % 10]
decreasing_by omega
theorem digs_lt {n : Nat} (h : n < 10) : digs n = [n] := by rw [digs, if_pos h]
theorem digs_ge {n : Nat} (h : ¬ n < 10) : digs n = digs (n / 10) ++ [n % 10] := by rw [digs, if_neg h]
theorem digs_ne (n : Nat) : digs n ≠ [] := by
  by_cases h : n < 10
  · rw [digs_lt h]; simp
  · rw [digs_ge h]; simp
theorem digs_dig (n : Nat) : ∀ d ∈ digs n, d < 10 := by
  induction n using digs.induct with
  | case1 n h => rw [digs_lt h]; intro d hd; simp at hd; omega
  | case2 n h ih =>
    rw [digs_ge h]; intro d hd
    rcases List.mem_append.1 hd with h1 | h1
    · exact ih d h1
    · simp at h1; omega
/-- the number of digits -/
def num (l : List Nat) : Nat := l.foldl (fun n d => 10 * n + d) 0
theorem num_snoc (l : List Nat) (d : Nat) : num (l ++ [d]) = 10 * num l + d := by simp [num]
theorem num_digs (n : Nat) : num (digs n) = n := by
  induction n using digs.induct with
  | case1 n h => rw [digs_lt h]; simp [num]
  | case2 n h ih => rw [digs_ge h, num_snoc, ih]; omega
/-- no 0 ahead -/
theorem digs_head (n : Nat) : (digs n).head? = some 0 → n = 0 := by
  induction n using digs.induct with
  | case1 n h => rw [digs_lt h]; simp
  | case2 n h ih =>
    rw [digs_ge h]
    intro hh
    have hh' : (digs (n / 10)).head? = some 0 := by
      rw [List.head?_append] at hh
      cases hx : (digs (n / 10)).head? with
      | none => exact absurd (List.head?_eq_none_iff.1 hx) (digs_ne _)
      | some d => rw [hx] at hh; exact hh
    have := ih hh'
    omega
theorem digs_ten (n : Nat) (h : n ≠ 0) : digs n ++ [0] = digs (10 * n) := by
  rw [digs_ge (n := 10 * n) (by omega)]
  rw [show 10 * n / 10 = n by omega, show 10 * n % 10 = 0 by omega]
/-- lengths grow with numbers -/
theorem digs_len (n k : Nat) : (digs n).length ≤ k + 1 ↔ n < 10 ^ (k + 1) := by
  induction k generalizing n with
  | zero =>
    by_cases h : n < 10
    · rw [digs_lt h]; simp; omega
    · rw [digs_ge h]
      have := List.length_pos_iff.2 (digs_ne (n / 10))
      rw [List.length_append, show (10 : Nat) ^ (0 + 1) = 10 from rfl]
      simp only [List.length_cons, List.length_nil]; omega
  | succ k ih =>
    by_cases h : n < 10
    · rw [digs_lt h]
      have : 10 ≤ 10 ^ (k + 1 + 1) := by
        have := Nat.pow_le_pow_right (n := 10) (by decide) (show 1 ≤ k + 1 + 1 by omega)
        simpa using this
      simp; omega
    · rw [digs_ge h, List.length_append]
      have := ih (n / 10)
      simp only [List.length_cons, List.length_nil]
      rw [Nat.pow_succ, ← Nat.div_lt_iff_lt_mul (by decide), ← this]; omega
end Go.Proofs.Ytbpcehbcbcojiaa.Dec
