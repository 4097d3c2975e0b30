namespace Go.Proofs.Ytbpcehbcbcojiaa.Dec
def digs (n : Nat) : List Nat := if n < 10 then [n] else digs (n / 10) ++ [n % 10]
decreasing_by omega
theorem digs_lt {n : Nat} (h : n < 10) : digs n = [n] := by rw [digs, if_pos h]
theorem digs_ge {n : Nat} (h : ¬ n < 10) : digs n = digs (n / 10) ++ [n % 10] := by rw [digs, if_neg h]
theorem digs_ne (n : Nat) : digs n ≠ [] := by
 by_cases h : n < 10
 ·
  rw [digs_lt h]; simp
 ·
  rw [digs_ge h]; simp
theorem digs_len (n k : Nat) : (digs n).length ≤ k + 1 ↔ n < 10 ^ (k + 1) := by
 induction k generalizing n with
 | zero =>
  by_cases h : n < 10
  ·
   rw [digs_lt h]; simp; omega
  ·
   rw [digs_ge h]
   have := List.length_pos_iff.2 (digs_ne (n / 10))
   rw [List.length_append, show (10 : Nat) ^ (0 + 1) = 10 from rfl]
   simp only [List.length_cons, List.length_nil]; omega
 | succ k ih =>
  by_cases h : n < 10
  ·
   rw [digs_lt h]
   have : 10 ≤ 10 ^ (k + 1 + 1) := by
    have := Nat.pow_le_pow_right (n := 10) (by decide) (show 1 ≤ k + 1 + 1 by omega)
    simpa using this
   simp; omega
  ·
   rw [digs_ge h, List.length_append]
   have := ih (n / 10)
   simp only [List.length_cons, List.length_nil]
   rw [Nat.pow_succ, ← Nat.div_lt_iff_lt_mul (by decide), ← this]; omega
end Go.Proofs.Ytbpcehbcbcojiaa.Dec
