import Derived.Test.YtbpcehbcbcojiaaDx2
import Derived.Test.YtbpcehbcbcojiaaDivP
import Derived.Lib.ItoaNum
namespace Go.Proofs.Ytbpcehbcbcojiaa.D
set_option linter.unusedVariables false
open Go.RowKit Go.Proofs.YtbpcehbcbcojiaaW.PrintWords Go.Proofs.YtbpcehbcbcojiaaW.PrintLast Go.Proofs.YtbpcehbcbcojiaaW.PrintMore
theorem bnd {α β : Type} {o : Option α} {f : α → Option β} {x : α} {r : Option β} (h : o = some x) (h2 : f x = r) : o.bind f = r := by subst h; exact h2
theorem wrapE (x : Int) : IntKind.u64.wrap x = x % 18446744073709551616 := by simp [IntKind.wrap, IntKind.signed, IntKind.bits]
theorem wr (n : Nat) (h : n < 18446744073709551616) : IntKind.u64.wrap (n : Int) = (n : Int) := by rw [wrapE]; omega
theorem wr_mul (a b : Nat) (h : a * b < 18446744073709551616) : IntKind.u64.wrap ((a : Int) * (b : Int)) = ((a * b : Nat) : Int) := by rw [← Int.natCast_mul]; exact wr _ h
theorem wr_add (a b : Nat) (h : a + b < 18446744073709551616) : IntKind.u64.wrap ((a : Int) + (b : Int)) = ((a + b : Nat) : Int) := by rw [← Int.natCast_add]; exact wr _ h
theorem wr_sub (a b : Nat) (h : b ≤ a) (ha : a < 18446744073709551616) : IntKind.u64.wrap ((a : Int) - (b : Int)) = ((a - b : Nat) : Int) := by rw [← Int.ofNat_sub h]; exact wr _ (by omega)
theorem wr_pred (a : Nat) (h : 1 ≤ a) (ha : a < 18446744073709551616) : IntKind.u64.wrap ((a : Int) - 1) = ((a - 1 : Nat) : Int) := wr_sub a 1 h ha
theorem hi_lo (r v : Nat) (hr : r < 4294967296) (hv : v < 4294967296) : IntKind.u64.wrap (IntKind.u64.wrap (4294967296 * (r : Int)) + (v : Int)) = ((4294967296 * r + v : Nat) : Int) := by
 rw [wrapE, wrapE]; omega
theorem three (u v q y m : Nat) (h : q * y ≤ u * 4294967296 + v) (hm : u * 4294967296 + v - q * y = m) (hlt : m < 18446744073709551616) :
  IntKind.u64.wrap (IntKind.u64.wrap (IntKind.u64.wrap ((u : Int) * 4294967296) + (v : Int)) - IntKind.u64.wrap ((q : Int) * (y : Int))) = (m : Int) := by
 rw [← Int.natCast_mul]
 generalize q * y = z at *
 rw [wrapE, wrapE, wrapE, wrapE]; omega
theorem qr (a b : Nat) (hb : 0 < b) (ha : a < 18446744073709551616) : IntKind.u64.wrap (Int.tdiv (a : Int) (b : Int)) = ((a / b : Nat) : Int) ∧ IntKind.u64.wrap ((a : Int) - IntKind.u64.wrap (IntKind.u64.wrap (Int.tdiv (a : Int) (b : Int)) * (b : Int))) = ((a - a / b * b : Nat) : Int) := by
 have e : IntKind.u64.wrap (Int.tdiv (a : Int) (b : Int)) = ((a / b : Nat) : Int) := by
  have : Int.tdiv (a : Int) (b : Int) = ((a / b : Nat) : Int) := rfl
  rw [this]; exact wr _ (Nat.lt_of_le_of_lt (Nat.div_le_self _ _) ha)
 refine ⟨e, ?_⟩
 have hl := Nat.div_mul_le_self a b
 rw [e, wr_mul _ _ (Nat.lt_of_le_of_lt hl ha), wr_sub _ _ hl ha]
theorem l0_ev (y s y1 y0 u v w Q : Nat) (hy : y = y1 * 4294967296 + y0) (h1 : 0 < y1) (h1' : y1 < 4294967296) (h0 : y0 < 4294967296) (hv : v < 4294967296) (hQ : Q = (u * 4294967296 + v) / y) (hlt : Q < 4294967296) (n : Nat) :
  ∀ q r k, q * y1 + r = u → q = Q + n → q ≤ 4294967297 → r < 4294967296 → 2 * n + 2 ≤ k →
   ∃ k', k ≤ k' + 2 * n + 2 ∧ bits_Div64.l0 k (y : Int) (s : Int) (y1 : Int) (y0 : Int) (u : Int) (v : Int) (w : Int) (q : Int) (r : Int) = bits_Div64.j2 k' (y : Int) (s : Int) (y1 : Int) (y0 : Int) (u : Int) (v : Int) (w : Int) (Q : Int) := by
 induction n with
 | zero =>
  intro q r k e1 e2 e3 e4 hk
  obtain rfl : q = Q := by omega
  obtain ⟨k, rfl⟩ : ∃ m, k = m + 1 + 1 := ⟨k - 2, by omega⟩
  refine ⟨k, by omega, ?_⟩
  have hc : q * y0 ≤ 4294967296 * r + v := by
   rcases Nat.lt_or_ge (4294967296 * r + v) (q * y0) with hh | hh
   ·
    exfalso
    have hd : u * 4294967296 + v = (q * y1 + r) * 4294967296 + v := by rw [e1]
    have := (DivP.step (y1 := y1) hd (by rw [← hy, ← hQ]; exact hlt) (by rw [← hy, ← hQ]; exact Nat.le_refl _) (Or.inr hh)).2.1
    have h2 := (DivP.step (y1 := y1) hd (by rw [← hy, ← hQ]; exact hlt) (by rw [← hy, ← hQ]; exact Nat.le_refl _) (Or.inr hh)).1
    rw [← hy, ← hQ] at this
    omega
   ·
    exact hh
  have hm : q * y0 < 18446744073709551616 := Nat.lt_of_le_of_lt (Nat.mul_le_mul (Nat.le_of_lt_succ hlt) (Nat.le_of_lt_succ h0)) (by decide)
  simp only [bits_Div64.l0]
  rw [if_neg (by omega), wr_mul _ _ hm, hi_lo r v e4 hv]
  have hd : decide (((q * y0 : Nat) : Int) > ((4294967296 * r + v : Nat) : Int)) = false := decide_eq_false (by omega)
  rw [hd]
  simp only [bits_Div64.j1]
  rw [if_neg (by simp)]
 | succ n ih =>
  intro q r k e1 e2 e3 e4 hk
  obtain ⟨k, rfl⟩ : ∃ m, k = m + 1 + 1 := ⟨k - 2, by omega⟩
  have hd : u * 4294967296 + v = (q * y1 + r) * 4294967296 + v := by rw [e1]
  have hdone : q * y0 ≤ 4294967296 * r + v → False := by
   intro hh
   have := DivP.done (y1 := y1) (by rw [← hy]; omega) hd (by rw [← hy, ← hQ]; omega) hh
   rw [← hy, ← hQ] at this
   omega
  have hr : IntKind.u64.wrap ((r : Int) + (y1 : Int)) = ((r + y1 : Nat) : Int) := wr_add _ _ (by omega)
  have hq : IntKind.u64.wrap ((q : Int) - 1) = ((q - 1 : Nat) : Int) := wr_pred _ (by omega) (by omega)
  have hj : bits_Div64.l0 (k + 1 + 1) (y : Int) (s : Int) (y1 : Int) (y0 : Int) (u : Int) (v : Int) (w : Int) (q : Int) (r : Int) = bits_Div64.j1 (k + 1) (y : Int) (s : Int) (y1 : Int) (y0 : Int) (u : Int) (v : Int) (w : Int) (q : Int) (r : Int) true := by
   simp only [bits_Div64.l0]
   by_cases hb : 4294967296 ≤ q
   ·
    rw [if_pos (by omega)]
   ·
    have hm : q * y0 < 18446744073709551616 := Nat.lt_of_le_of_lt (Nat.mul_le_mul (Nat.le_of_lt_succ (Nat.lt_of_not_le hb)) (Nat.le_of_lt_succ h0)) (by decide)
    rw [if_neg (by omega), wr_mul _ _ hm, hi_lo r v e4 hv]
    have hd : decide (((q * y0 : Nat) : Int) > ((4294967296 * r + v : Nat) : Int)) = true := decide_eq_true (Int.ofNat_lt.2 (Nat.lt_of_not_le hdone))
    rw [hd]
  rw [hj]
  have hu : (q - 1) * y1 + (r + y1) = u := by
   obtain ⟨p, rfl⟩ : ∃ p, q = p + 1 := ⟨q - 1, by omega⟩
   rw [Nat.add_sub_cancel, ← e1, Nat.add_mul]; omega
  simp only [bits_Div64.j1]
  rw [if_pos trivial, hr, hq]
  by_cases hb : 4294967296 ≤ r + y1
  ·
   rw [if_pos (by omega)]
   have hdd : u * 4294967296 + v = ((q - 1) * y1 + (r + y1)) * 4294967296 + v := by rw [hu]
   have := DivP.done (y1 := y1) (by rw [← hy]; omega) hdd (by rw [← hy, ← hQ]; omega) (DivP.broke (v := v) hb (by omega) h0)
   rw [← hy, ← hQ] at this
   exact ⟨k, by omega, by rw [this]⟩
  ·
   rw [if_neg (by omega)]
   obtain ⟨k', h1, h2⟩ := ih (q - 1) (r + y1) k hu (by omega) (by omega) (by omega) (by omega)
   exact ⟨k', by omega, h2⟩
theorem l1_ev (y s y1 y0 u v q1 Q R : Nat) (hy : y = y1 * 4294967296 + y0) (h1 : 0 < y1) (h1' : y1 < 4294967296) (h0 : y0 < 4294967296) (hv : v < 4294967296) (hQ : Q = (u * 4294967296 + v) / y) (hlt : Q < 4294967296) (hq1 : q1 < 4294967296) (hR : u * 4294967296 + v - Q * y = R) (hle : Q * y ≤ u * 4294967296 + v) (hRl : R < 18446744073709551616) (hs : s < 64) (n : Nat) :
  ∀ q r k, q * y1 + r = u → q = Q + n → q ≤ 4294967297 → r < 4294967296 → 2 * n + 2 ≤ k →
   bits_Div64.l1 k (y : Int) (s : Int) (y1 : Int) (y0 : Int) (v : Int) (q1 : Int) (r : Int) (u : Int) (q : Int) = some (((q1 * 4294967296 + Q : Nat) : Int), ((R / 2 ^ s : Nat) : Int)) := by
 have hend : (some (IntKind.u64.wrap ((IntKind.u64.wrap ((q1 : Int) * 4294967296)) + (Q : Int)), shr .u64 (IntKind.u64.wrap ((IntKind.u64.wrap ((IntKind.u64.wrap ((u : Int) * 4294967296)) + (v : Int))) - (IntKind.u64.wrap ((Q : Int) * (y : Int))))) (s : Int)) : Option (Int × Int)) = some (((q1 * 4294967296 + Q : Nat) : Int), ((R / 2 ^ s : Nat) : Int)) := by
  rw [three u v Q y R hle hR hRl]
  have e1 : IntKind.u64.wrap ((IntKind.u64.wrap ((q1 : Int) * 4294967296)) + (Q : Int)) = ((q1 * 4294967296 + Q : Nat) : Int) := by rw [wrapE, wrapE]; omega
  have e2 : shr .u64 (R : Int) (s : Int) = ((R / 2 ^ s : Nat) : Int) := by
   unfold shr
   rw [Int.toNat_natCast, Nat.min_eq_left (show s ≤ IntKind.u64.bits from Nat.le_of_lt hs)]
   rw [Int.natCast_ediv, Int.natCast_pow]; rfl
  rw [e1, e2]
 induction n with
 | zero =>
  intro q r k e1 e2 e3 e4 hk
  obtain rfl : q = Q := by omega
  obtain ⟨k, rfl⟩ : ∃ m, k = m + 1 + 1 := ⟨k - 2, by omega⟩
  have hc : q * y0 ≤ 4294967296 * r + v := by
   rcases Nat.lt_or_ge (4294967296 * r + v) (q * y0) with hh | hh
   ·
    exfalso
    have hd : u * 4294967296 + v = (q * y1 + r) * 4294967296 + v := by rw [e1]
    have := (DivP.step (y1 := y1) hd (by rw [← hy, ← hQ]; exact hlt) (by rw [← hy, ← hQ]; exact Nat.le_refl _) (Or.inr hh)).2.1
    have h2 := (DivP.step (y1 := y1) hd (by rw [← hy, ← hQ]; exact hlt) (by rw [← hy, ← hQ]; exact Nat.le_refl _) (Or.inr hh)).1
    rw [← hy, ← hQ] at this
    omega
   ·
    exact hh
  have hm : q * y0 < 18446744073709551616 := Nat.lt_of_le_of_lt (Nat.mul_le_mul (Nat.le_of_lt_succ hlt) (Nat.le_of_lt_succ h0)) (by decide)
  simp only [bits_Div64.l1]
  rw [if_neg (by omega), wr_mul _ _ hm, hi_lo r v e4 hv]
  have hd : decide (((q * y0 : Nat) : Int) > ((4294967296 * r + v : Nat) : Int)) = false := decide_eq_false (by omega)
  rw [hd]
  simp only [bits_Div64.j4]
  rw [if_neg (by simp), if_pos (Int.natCast_nonneg _)]
  exact hend
 | succ n ih =>
  intro q r k e1 e2 e3 e4 hk
  obtain ⟨k, rfl⟩ : ∃ m, k = m + 1 + 1 := ⟨k - 2, by omega⟩
  have hd : u * 4294967296 + v = (q * y1 + r) * 4294967296 + v := by rw [e1]
  have hdone : q * y0 ≤ 4294967296 * r + v → False := by
   intro hh
   have := DivP.done (y1 := y1) (by rw [← hy]; omega) hd (by rw [← hy, ← hQ]; omega) hh
   rw [← hy, ← hQ] at this
   omega
  have hr : IntKind.u64.wrap ((r : Int) + (y1 : Int)) = ((r + y1 : Nat) : Int) := wr_add _ _ (by omega)
  have hq : IntKind.u64.wrap ((q : Int) - 1) = ((q - 1 : Nat) : Int) := wr_pred _ (by omega) (by omega)
  have hj : bits_Div64.l1 (k + 1 + 1) (y : Int) (s : Int) (y1 : Int) (y0 : Int) (v : Int) (q1 : Int) (r : Int) (u : Int) (q : Int) = bits_Div64.j4 (k + 1) (y : Int) (s : Int) (y1 : Int) (y0 : Int) (v : Int) (q1 : Int) (r : Int) (u : Int) (q : Int) true := by
   simp only [bits_Div64.l1]
   by_cases hb : 4294967296 ≤ q
   ·
    rw [if_pos (by omega)]
   ·
    have hm : q * y0 < 18446744073709551616 := Nat.lt_of_le_of_lt (Nat.mul_le_mul (Nat.le_of_lt_succ (Nat.lt_of_not_le hb)) (Nat.le_of_lt_succ h0)) (by decide)
    rw [if_neg (by omega), wr_mul _ _ hm, hi_lo r v e4 hv]
    have hd : decide (((q * y0 : Nat) : Int) > ((4294967296 * r + v : Nat) : Int)) = true := decide_eq_true (Int.ofNat_lt.2 (Nat.lt_of_not_le hdone))
    rw [hd]
  rw [hj]
  have hu : (q - 1) * y1 + (r + y1) = u := by
   obtain ⟨p, rfl⟩ : ∃ p, q = p + 1 := ⟨q - 1, by omega⟩
   rw [Nat.add_sub_cancel, ← e1, Nat.add_mul]; omega
  simp only [bits_Div64.j4]
  rw [if_pos trivial, hr, hq]
  by_cases hb : 4294967296 ≤ r + y1
  ·
   rw [if_pos (by omega), if_pos (Int.natCast_nonneg _)]
   have hdd : u * 4294967296 + v = ((q - 1) * y1 + (r + y1)) * 4294967296 + v := by rw [hu]
   have := DivP.done (y1 := y1) (by rw [← hy]; omega) hdd (by rw [← hy, ← hQ]; omega) (DivP.broke (v := v) hb (by omega) h0)
   rw [← hy, ← hQ] at this
   rw [this]
   exact hend
  ·
   rw [if_neg (by omega)]
   exact ih (q - 1) (r + y1) k hu (by omega) (by omega) (by omega) (by omega)
theorem shl_nat (x s : Nat) (hs : s ≤ 64) (h : x * 2 ^ s < 18446744073709551616) : shl .u64 (x : Int) (s : Int) = ((x * 2 ^ s : Nat) : Int) := by
 unfold shl
 rw [Int.toNat_natCast, Nat.min_eq_left (show s ≤ IntKind.u64.bits from hs)]
 rw [show (x : Int) * 2 ^ s = ((x * 2 ^ s : Nat) : Int) by rw [Int.natCast_mul, Int.natCast_pow]; rfl]
 exact wr _ h
theorem shl_mod (x s : Nat) (hs : s ≤ 64) : shl .u64 (x : Int) (s : Int) = ((x * 2 ^ s % 18446744073709551616 : Nat) : Int) := by
 unfold shl
 rw [Int.toNat_natCast, Nat.min_eq_left (show s ≤ IntKind.u64.bits from hs)]
 rw [show (x : Int) * 2 ^ s = ((x * 2 ^ s : Nat) : Int) by rw [Int.natCast_mul, Int.natCast_pow]; rfl]
 rw [wrapE]; rfl
theorem shr_nat (x s : Nat) (hs : s ≤ 64) : shr .u64 (x : Int) (s : Int) = ((x / 2 ^ s : Nat) : Int) := by
 unfold shr
 rw [Int.toNat_natCast, Nat.min_eq_left (show s ≤ IntKind.u64.bits from hs)]
 rw [Int.natCast_ediv, Int.natCast_pow]; rfl
theorem up (hi lo s : Nat) (hs : s ≤ 64) (hl : lo < 18446744073709551616) (hh : hi * 2 ^ s < 18446744073709551616) :
  (hi * 2 ^ s ||| lo / 2 ^ (64 - s)) = hi * 2 ^ s + lo / 2 ^ (64 - s) ∧ (hi * 18446744073709551616 + lo) * 2 ^ s = (hi * 2 ^ s + lo / 2 ^ (64 - s)) * 18446744073709551616 + lo * 2 ^ s % 18446744073709551616 := by
 have e64 : 18446744073709551616 = 2 ^ (64 - s) * 2 ^ s := by rw [← Nat.pow_add, Nat.sub_add_cancel hs]
 have hd : lo / 2 ^ (64 - s) < 2 ^ s := by
  rw [Nat.div_lt_iff_lt_mul (Nat.two_pow_pos _), Nat.mul_comm, ← e64]; exact hl
 constructor
 ·
  rw [Nat.mul_comm hi, ← Nat.two_pow_add_eq_or_of_lt hd]
 ·
  have h1 := Nat.div_add_mod (lo * 2 ^ s) 18446744073709551616
  have h2 : lo * 2 ^ s / 18446744073709551616 = lo / 2 ^ (64 - s) := by
   rw [e64, Nat.mul_div_mul_right _ _ (Nat.two_pow_pos s)]
  rw [h2] at h1
  rw [Nat.add_mul, Nat.add_mul, ← h1, Nat.mul_right_comm hi]
  omega
theorem blen_norm (y : Nat) (h0 : 0 < y) (h : y < 18446744073709551616) : Lib.bitLen y ≤ 64 ∧ 0 < Lib.bitLen y ∧ 9223372036854775808 ≤ y * 2 ^ (64 - Lib.bitLen y) ∧ y * 2 ^ (64 - Lib.bitLen y) < 18446744073709551616 := by
 obtain ⟨h1, h2, h3⟩ := Lib.bitLenAux_bounds 64 y h (by omega)
 have e : Lib.bitLen y = Lib.bitLenAux 64 y := rfl
 have h4 : Lib.bitLen y ≤ 64 := Lib.bitLen_le y 64 (by omega) h
 rw [e] at h4 ⊢
 generalize Lib.bitLenAux 64 y = m at *
 obtain ⟨j, rfl⟩ : ∃ j, m = j + 1 := ⟨m - 1, by omega⟩
 have e1 : 2 ^ (j + 1) * 2 ^ (64 - (j + 1)) = 18446744073709551616 := by rw [← Nat.pow_add, Nat.add_sub_cancel' h4]
 have e2 : 2 ^ j * 2 ^ (64 - (j + 1)) = 9223372036854775808 := by rw [← Nat.pow_add, show j + (64 - (j + 1)) = 63 by omega]
 refine ⟨h4, by omega, ?_, ?_⟩
 ·
  have := Nat.mul_le_mul_right (2 ^ (64 - (j + 1))) h2
  rw [Nat.add_sub_cancel, e2] at this; exact this
 ·
  have := Nat.mul_lt_mul_of_pos_right h3 (Nat.two_pow_pos (64 - (j + 1)))
  rw [e1] at this; exact this
theorem and32 (x : Nat) (h : x < 18446744073709551616) : Go.bits .and .u64 (x : Int) 4294967295 = ((x % 4294967296 : Nat) : Int) := by
 have := bits_and_u64_nat x 4294967295 h (by omega)
 rw [show ((4294967295 : Nat) : Int) = 4294967295 from rfl] at this
 rw [this, show (4294967295 : Nat) = 2 ^ 32 - 1 from rfl, Nat.and_two_pow_sub_one_eq_mod]
theorem div32 (x : Nat) : (x : Int) / 4294967296 = ((x / 4294967296 : Nat) : Int) := by rw [Int.natCast_ediv]; rfl
theorem join (u v1 v0 v : Nat) (h : v = v1 * 4294967296 + v0) : (u * 4294967296 + v1) * 4294967296 + v0 = u * 18446744073709551616 + v := by omega
theorem div64 (hi lo y : Nat) (hy : hi < y) (hy2 : y < 18446744073709551616) (hl : lo < 18446744073709551616) :
  ∃ k, bits_Div64.f k (hi : Int) (lo : Int) (y : Int) = some ((((hi * 18446744073709551616 + lo) / y : Nat) : Int), (((hi * 18446744073709551616 + lo) % y : Nat) : Int)) := by
 have hA : ¬ ((y : Int) = 0) := by omega
 have hB : ¬ ((y : Int) ≤ (hi : Int)) := by omega
 by_cases h0 : hi = 0
 ·
  subst h0
  refine ⟨0, ?_⟩
  unfold bits_Div64.f
  rw [if_neg (by omega), if_neg (by omega), if_pos (by rfl), (qr lo y (by omega) hl).1]
  rw [Nat.zero_mul, Nat.zero_add]
  rfl
 have hC : ¬ ((hi : Int) = 0) := by omega
 obtain ⟨b1, b2, b3, b4⟩ := blen_norm y (by omega) hy2
 have hlz : bits_LeadingZeros64.f (y : Int) = some (64 - (Lib.bitLen y : Int)) := by
  unfold bits_LeadingZeros64.f; rw [if_pos (by omega), Int.toNat_natCast]
 obtain ⟨s, hs⟩ : ∃ s, s = 64 - Lib.bitLen y := ⟨_, rfl⟩
 rw [← hs] at b3 b4
 have hs64 : s < 64 := by omega
 have ws : IntKind.u64.wrap (64 - (Lib.bitLen y : Int)) = (s : Int) := by rw [wrapE]; omega
 have ws2 : IntKind.u64.wrap (64 - (s : Int)) = ((64 - s : Nat) : Int) := by rw [wrapE]; omega
 have P := Nat.two_pow_pos s
 obtain ⟨z, hz⟩ : ∃ z, z = y * 2 ^ s := ⟨_, rfl⟩
 have e1 : shl .u64 (y : Int) (s : Int) = (z : Int) := by rw [hz]; exact shl_nat y s (by omega) b4
 have hhi : hi * 2 ^ s < z := by rw [hz]; exact Nat.mul_lt_mul_of_pos_right hy P
 rw [← hz] at b3 b4
 obtain ⟨u1, u2⟩ := up hi lo s (by omega) hl (by omega)
 have e2 : shl .u64 (hi : Int) (s : Int) = ((hi * 2 ^ s : Nat) : Int) := shl_nat hi s (by omega) (by omega)
 have e3 : shr .u64 (lo : Int) ((64 - s : Nat) : Int) = ((lo / 2 ^ (64 - s) : Nat) : Int) := shr_nat lo (64 - s) (by omega)
 have e4 : Go.bits .or .u64 ((hi * 2 ^ s : Nat) : Int) ((lo / 2 ^ (64 - s) : Nat) : Int) = ((hi * 2 ^ s + lo / 2 ^ (64 - s) : Nat) : Int) := by
  rw [← u1]; exact bits_or_u64_nat _ _ (by omega) (Nat.lt_of_le_of_lt (Nat.div_le_self _ _) hl)
 have e5 := shl_mod lo s (Nat.le_of_lt hs64)
 have hN : (hi * 18446744073709551616 + lo) * 2 ^ s < z * 18446744073709551616 := by
  rw [hz, Nat.mul_right_comm]; refine Nat.mul_lt_mul_of_pos_right ?_ P
  have : (hi + 1) * 18446744073709551616 ≤ y * 18446744073709551616 := Nat.mul_le_mul_right _ hy
  omega
 have hv : lo * 2 ^ s % 18446744073709551616 < 18446744073709551616 := Nat.mod_lt _ (by decide)
 have hsh := DivP.shifted (n := hi * 18446744073709551616 + lo) (y := y) P
 rw [u2] at hN hsh
 rw [← hz] at hsh
 generalize hi * 2 ^ s + lo / 2 ^ (64 - s) = u at *
 generalize lo * 2 ^ s % 18446744073709551616 = v at *
 clear u1 u2
 have hu : u < z := by omega
 have w1 := and32 z b4
 have w2 := and32 v hv
 have w3 := div32 z
 have w4 := div32 v
 have hzz : z = z / 4294967296 * 4294967296 + z % 4294967296 := by omega
 have hvv : v = v / 4294967296 * 4294967296 + v % 4294967296 := by omega
 have y1l : z / 4294967296 < 4294967296 := by omega
 have y1g : 2147483648 ≤ z / 4294967296 := by omega
 have y0l : z % 4294967296 < 4294967296 := by omega
 have v1l : v / 4294967296 < 4294967296 := by omega
 have v0l : v % 4294967296 < 4294967296 := by omega
 generalize z / 4294967296 = y1 at *
 generalize z % 4294967296 = y0 at *
 generalize v / 4294967296 = v1 at *
 generalize v % 4294967296 = v0 at *
 have S1 := DivP.start (b := 4294967296) (y1 := y1) (y0 := y0) (u := u) (v := v1) v1l (by omega) y0l (by omega) (by omega)
 rw [← hzz] at S1
 obtain ⟨s1, s2, s3, s4, s5⟩ := S1
 obtain ⟨Q1, hQ1⟩ : ∃ Q, Q = (u * 4294967296 + v1) / z := ⟨_, rfl⟩
 obtain ⟨R1, hR1⟩ : ∃ R, R = u * 4294967296 + v1 - Q1 * z := ⟨_, rfl⟩
 obtain ⟨Q0, hQ0⟩ : ∃ Q, Q = (R1 * 4294967296 + v0) / z := ⟨_, rfl⟩
 have T := DivP.two (b := 4294967296) (u := u) (v := v1) (w := v0) (y := z) (q1 := Q1) (q0 := Q0) (by omega) hQ1 (by rw [hQ0, hR1])
 rw [← hR1] at T
 obtain ⟨t1, t2, t3, t4, t5⟩ := T
 have S0 := DivP.start (b := 4294967296) (y1 := y1) (y0 := y0) (u := R1) (v := v0) v0l (by omega) y0l (by omega) (by omega)
 rw [← hzz] at S0
 obtain ⟨p1, p2, p3, p4, p5⟩ := S0
 rw [← hQ1] at s2 s5
 rw [← hQ0] at p2 p5
 have hR0 : R1 * 4294967296 + v0 - Q0 * z < 18446744073709551616 := by
  rw [t2]; exact Nat.lt_trans (Nat.mod_lt _ (by omega)) b4
 have d1 := join u v1 v0 v hvv
 rw [d1] at t1 t2
 rw [hsh.1] at t1
 have hfin : (R1 * 4294967296 + v0 - Q0 * z) / 2 ^ s = (hi * 18446744073709551616 + lo) % y := by rw [t2]; exact hsh.2
 have hy1 : ¬ ((y1 : Int) = 0) := by omega
 obtain ⟨K, hK⟩ : ∃ K, K = 2 * (u / y1 - Q1) + 2 + (2 * (R1 / y1 - Q0) + 3) := ⟨_, rfl⟩
 have q1 := qr u y1 (by omega) (by omega)
 have q0 := qr R1 y1 (by omega) (by omega)
 have L1 := l1_ev z s y1 y0 R1 v0 Q1 Q0 (R1 * 4294967296 + v0 - Q0 * z) hzz (by omega) y1l y0l v0l hQ0 p5 s5 rfl t5 hR0 hs64 (R1 / y1 - Q0) (R1 / y1) (R1 - R1 / y1 * y1)
 obtain ⟨k', hk', L0⟩ := l0_ev z s y1 y0 u v1 v0 Q1 hzz (by omega) y1l y0l v1l hQ1 s5 (u / y1 - Q1) (u / y1) (u - u / y1 * y1) K s1 (by omega) (by omega) (by omega) (by omega)
 have hk1 : 2 * (R1 / y1 - Q0) + 2 + 1 ≤ k' := by omega
 refine ⟨K, ?_⟩
 unfold bits_Div64.f
 rw [if_neg hA, if_neg hB, if_neg hC]
 refine bnd hlz ?_
 rw [ws, ws2, if_pos (Int.natCast_nonneg _), if_pos (Int.natCast_nonneg _), e1, e2, e3, e4, e5, w1, w2, w3, w4, if_neg hy1, q1.2, q1.1, L0]
 obtain ⟨k', rfl⟩ : ∃ j, k' = j + 1 := ⟨k' - 1, by omega⟩
 simp only [bits_Div64.j2]
 rw [if_neg hy1, three u v1 Q1 z R1 t4 hR1.symm (by omega), q0.2, q0.1, L1 k' p1 (by omega) (by omega) (by omega) (by omega), t1, hfin]
#print axioms div64
end Go.Proofs.Ytbpcehbcbcojiaa.D
