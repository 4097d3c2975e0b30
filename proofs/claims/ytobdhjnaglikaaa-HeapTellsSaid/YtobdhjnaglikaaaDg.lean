namespace Go.Proofs.Ytobdhjnaglikaaa.Dg
def D (n i : Nat) : Nat := n / 65536 ^ i % 65536
theorem D_lt (n i : Nat) : D n i < 65536 := Nat.mod_lt _ (by decide)
theorem div_succ (n i : Nat) : n / 65536 ^ (i + 1) = n / 65536 ^ i / 65536 := by rw [Nat.pow_succ, Nat.div_div_eq_div_mul]
theorem D_zero (i : Nat) : D 0 i = 0 := by unfold D; simp
theorem mul_step {s p x b c : Nat} (h : s = p + x * b + c) (hx : x < 65536) (hc : c < 65536) :
  (p % 65536 + x * (b % 65536) + c) % 65536 = s % 65536 ∧ s / 65536 = p / 65536 + x * (b / 65536) + (p % 65536 + x * (b % 65536) + c) / 65536 ∧ (p % 65536 + x * (b % 65536) + c) / 65536 < 65536 ∧ p % 65536 + x * (b % 65536) + c < 4294967296 := by
 have e : x * b = 65536 * (x * (b / 65536)) + x * (b % 65536) := by
  rw [← Nat.mul_assoc, Nat.mul_comm 65536 x, Nat.mul_assoc, ← Nat.mul_add, Nat.div_add_mod]
 have b1 : x * (b % 65536) ≤ 65535 * 65535 := Nat.mul_le_mul (by omega) (by omega)
 rw [e] at h
 generalize x * (b / 65536) = u at *
 generalize x * (b % 65536) = v at *
 omega
theorem small_D {n i j : Nat} (h : n < 65536 ^ i) (hj : i ≤ j) : D n j = 0 := by
 unfold D
 rw [Nat.div_eq_of_lt (Nat.lt_of_lt_of_le h (Nat.pow_le_pow_right (by decide) hj))]
theorem mul_next (A B i : Nat) : (A % 65536 ^ (i + 1)) * B = (A % 65536 ^ i) * B + D A i * 65536 ^ i * B := by
 have e : A % 65536 ^ (i + 1) = A % 65536 ^ i + D A i * 65536 ^ i := by
  unfold D
  rw [Nat.pow_succ, Nat.mod_mul]; congr 1; exact Nat.mul_comm _ _
 rw [e, Nat.add_mul]
theorem mul_first (P x B i : Nat) : (P + x * 65536 ^ i * B) / 65536 ^ i = P / 65536 ^ i + x * B + 0 := by
 have hp : 0 < 65536 ^ i := Nat.pos_of_ne_zero (by simp)
 rw [show x * 65536 ^ i * B = 65536 ^ i * (x * B) by ac_rfl, Nat.add_mul_div_left _ _ hp]; rfl
theorem mul_last {P Q x B c i : Nat} (h : Q / 65536 ^ (i + 8) = P / 65536 ^ (i + 8) + x * (B / 65536 ^ 8) + c) (hP : P < 65536 ^ (i + 8)) (hB : B < 65536 ^ 8) (hc : c < 65536) :
  D Q (i + 8) = c ∧ Q < 65536 ^ (i + 1 + 8) := by
 rw [Nat.div_eq_of_lt hP, Nat.div_eq_of_lt hB, Nat.mul_zero, Nat.zero_add] at h
 refine ⟨by unfold D; rw [h]; exact Nat.mod_eq_of_lt hc, ?_⟩
 have : Q / 65536 ^ (i + 8) < 65536 := by omega
 rw [Nat.div_lt_iff_lt_mul (Nat.pos_of_ne_zero (by simp))] at this
 rw [show i + 1 + 8 = i + 8 + 1 by omega, Nat.pow_succ, Nat.mul_comm]; exact this
theorem mul_all {A B : Nat} (hA : A < 65536 ^ 8) : (A % 65536 ^ 8) * B = A * B := by rw [Nat.mod_eq_of_lt hA]
theorem cmp_step {A B i : Nat} (h : A / 65536 ^ (i + 1) = B / 65536 ^ (i + 1)) :
  (D A i < D B i → A < B) ∧ (D B i < D A i → B < A) ∧ (¬ D A i < D B i → ¬ D B i < D A i → A / 65536 ^ i = B / 65536 ^ i) := by
 rw [div_succ, div_succ] at h
 have mono : A / 65536 ^ i < B / 65536 ^ i → A < B := fun hl => by
  apply Classical.byContradiction; intro hn
  exact absurd (Nat.div_le_div_right (c := 65536 ^ i) (Nat.le_of_not_lt hn)) (by omega)
 have mono' : B / 65536 ^ i < A / 65536 ^ i → B < A := fun hl => by
  apply Classical.byContradiction; intro hn
  exact absurd (Nat.div_le_div_right (c := 65536 ^ i) (Nat.le_of_not_lt hn)) (by omega)
 unfold D
 exact ⟨fun h1 => mono (by omega), fun h1 => mono' (by omega), fun h1 h2 => by omega⟩
theorem high_zero {P : Nat} (hP : P < 65536 ^ 16) (h : ∀ j, j < 8 → D P (8 + j) = 0) : P < 65536 ^ 8 := by
 have key : ∀ j, j ≤ 8 → P < 65536 ^ (16 - j) := by
  intro j
  induction j with
  | zero => intro _; exact hP
  | succ j ih =>
   intro hj
   have h1 := ih (by omega)
   have h2 := h (7 - j) (by omega)
   rw [show 8 + (7 - j) = 16 - (j + 1) by omega] at h2
   rw [show 16 - j = 16 - (j + 1) + 1 by omega] at h1
   generalize 16 - (j + 1) = m at *
   unfold D at h2
   have h3 : P / 65536 ^ m < 65536 := by
    rw [Nat.div_lt_iff_lt_mul (Nat.pos_of_ne_zero (by simp))]; rw [Nat.pow_succ, Nat.mul_comm] at h1; exact h1
   have h4 : P / 65536 ^ m = 0 := by generalize P / 65536 ^ m = q at h2 h3; omega
   rcases Nat.div_eq_zero_iff.1 h4 with h5 | h5
   ·
    simp at h5
   ·
    exact h5
 exact key 8 (by omega)
theorem high_some {P j : Nat} (h : D P (8 + j) ≠ 0) : 65536 ^ 8 ≤ P := by
 apply Classical.byContradiction; intro hn
 exact h (small_D (Nat.lt_of_not_le hn) (by omega))
end Go.Proofs.Ytobdhjnaglikaaa.Dg
