namespace Go.Proofs.Ytbpcehbcbcojiaa.DivP
theorem qle {q y u : Nat} (hy : 0 < y) (h : q * y ≤ u) : q ≤ u / y := (Nat.le_div_iff_mul_le hy).2 h
theorem fits {b y1 y0 q r v : Nat} (h : q * y0 ≤ b * r + v) : q * (y1 * b + y0) ≤ (q * y1 + r) * b + v := by
  have e1 : q * (y1 * b + y0) = q * y1 * b + q * y0 := by rw [Nat.mul_add, Nat.mul_assoc]
  have e2 : (q * y1 + r) * b = q * y1 * b + b * r := by rw [Nat.add_mul, Nat.mul_comm r b]
  omega
theorem toomuch {b y1 y0 q r v : Nat} (h : b * r + v < q * y0) : (q * y1 + r) * b + v < q * (y1 * b + y0) := by
  have e1 : q * (y1 * b + y0) = q * y1 * b + q * y0 := by rw [Nat.mul_add, Nat.mul_assoc]
  have e2 : (q * y1 + r) * b = q * y1 * b + b * r := by rw [Nat.add_mul, Nat.mul_comm r b]
  omega
theorem step {b y1 y0 q r v D : Nat} (hD : D = (q * y1 + r) * b + v) (hlt : D / (y1 * b + y0) < b) (hq : D / (y1 * b + y0) ≤ q) (h : b ≤ q ∨ b * r + v < q * y0) :
    1 ≤ q ∧ D / (y1 * b + y0) ≤ q - 1 ∧ (q - 1) * y1 + (r + y1) = q * y1 + r := by
  have key : ∀ e : Nat, e < b → e ≤ q → e < q → 1 ≤ q ∧ e ≤ q - 1 := fun e _ _ _ => ⟨by omega, by omega⟩
  have hn : D / (y1 * b + y0) < q := by
    rcases h with h | h
    · exact Nat.lt_of_lt_of_le hlt h
    · have := toomuch (y1 := y1) h
      rw [← hD] at this
      exact (Nat.div_lt_iff_lt_mul (by rcases Nat.eq_zero_or_pos (y1 * b + y0) with e | e; · rw [e] at this; omega
                                       · exact e)).2 this
  obtain ⟨k1, k2⟩ := key _ hlt hq hn
  refine ⟨k1, k2, ?_⟩
  clear key hn k2 hq hlt h hD
  obtain ⟨p, rfl⟩ : ∃ p, q = p + 1 := ⟨q - 1, by omega⟩
  rw [Nat.add_sub_cancel, Nat.add_mul]; omega
theorem done {b y1 y0 q r v D : Nat} (hy : 0 < y1 * b + y0) (hD : D = (q * y1 + r) * b + v) (hq : D / (y1 * b + y0) ≤ q) (h : q * y0 ≤ b * r + v) : q = D / (y1 * b + y0) := by
  have := qle hy (Nat.le_trans (fits (y1 := y1) h) (Nat.le_of_eq hD.symm))
  omega
theorem broke {b y0 q r v : Nat} (h1 : b ≤ r) (h2 : q ≤ b) (h3 : y0 < b) : q * y0 ≤ b * r + v :=
  Nat.le_trans (Nat.mul_le_mul h2 (Nat.le_of_lt (Nat.lt_of_lt_of_le h3 h1))) (Nat.le_add_right _ _)
theorem start {b y1 y0 u v : Nat} (hv : v < b) (h1 : 0 < y1) (h0 : y0 < b) (hn : b ≤ 2 * y1) (hu : u < y1 * b + y0) :
    u / y1 * y1 + (u - u / y1 * y1) = u ∧ (u * b + v) / (y1 * b + y0) ≤ u / y1 ∧ u / y1 ≤ b + 1 ∧ u - u / y1 * y1 < y1 ∧ (u * b + v) / (y1 * b + y0) < b := by
  have hm := Nat.div_add_mod u y1
  have hl := Nat.mod_lt u h1
  rw [Nat.mul_comm] at hm
  refine ⟨by omega, ?_, ?_, by omega, ?_⟩
  · rw [Nat.le_div_iff_mul_le h1]
    generalize hq : (u * b + v) / (y1 * b + y0) = q
    have h := Nat.div_mul_le_self (u * b + v) (y1 * b + y0)
    rw [hq, Nat.mul_add, ← Nat.mul_assoc] at h
    have : q * y1 * b < (u + 1) * b := by rw [Nat.add_mul, Nat.one_mul]; omega
    exact Nat.le_of_lt_succ (Nat.lt_of_mul_lt_mul_right this)
  · have : u < (b + 2) * y1 := by rw [Nat.add_mul, Nat.mul_comm b y1]; omega
    have := (Nat.div_lt_iff_lt_mul h1).2 this
    omega
  · rw [Nat.div_lt_iff_lt_mul (by omega)]
    have : (u + 1) * b ≤ (y1 * b + y0) * b := Nat.mul_le_mul_right _ hu
    rw [Nat.add_mul, Nat.one_mul, Nat.mul_comm (y1 * b + y0)] at this
    omega
theorem two {b u v w y q1 q0 : Nat} (hy : 0 < y) (h1 : q1 = (u * b + v) / y) (h0 : q0 = ((u * b + v - q1 * y) * b + w) / y) :
    q1 * b + q0 = ((u * b + v) * b + w) / y ∧ (u * b + v - q1 * y) * b + w - q0 * y = ((u * b + v) * b + w) % y ∧ u * b + v - q1 * y < y ∧ q1 * y ≤ u * b + v ∧ q0 * y ≤ (u * b + v - q1 * y) * b + w := by
  generalize u * b + v = n at *
  have e1 : n - q1 * y = n % y := by have := Nat.div_add_mod n y; rw [h1, Nat.mul_comm]; omega
  have l1 : q1 * y ≤ n := by rw [h1]; exact Nat.div_mul_le_self _ _
  rw [e1] at h0 ⊢
  have l0 : q0 * y ≤ n % y * b + w := by rw [h0]; exact Nat.div_mul_le_self _ _
  have m := Nat.mod_lt n hy
  have k : n * b + w = y * (q1 * b) + (n % y * b + w) := by
    have := Nat.div_add_mod n y
    rw [← h1] at this
    calc n * b + w = (y * q1 + n % y) * b + w := by rw [this]
      _ = _ := by rw [Nat.add_mul, Nat.mul_assoc, Nat.add_assoc]
  refine ⟨?_, ?_, m, l1, l0⟩
  · rw [k, Nat.mul_add_div hy, ← h0]
  · rw [k, Nat.mul_add_mod, h0]
    have := Nat.div_add_mod (n % y * b + w) y
    rw [Nat.mul_comm] at this
    omega
theorem shifted {n y s : Nat} (hs : 0 < s): (n * s) / (y * s) = n / y ∧ (n * s) % (y * s) / s = n % y := by
  constructor
  · rw [Nat.mul_div_mul_right _ _ hs]
  · rw [Nat.mul_mod_mul_right, Nat.mul_div_cancel _ hs]
end Go.Proofs.Ytbpcehbcbcojiaa.DivP
