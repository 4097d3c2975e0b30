import Derived.Test.YtbpcehbcbcojiaaMul
import Derived.Test.YtbpcehbcbcojiaaMulA
import Derived.Test.YtbpcehbcbcojiaaDivW
namespace Go.Proofs.Ytbpcehbcbcojiaa
open Go.RowKit
set_option linter.unusedVariables false
theorem mul_any (ah al bh bl : Nat) (h1 : W64 ah) (h2 : W64 al) (h3 : W64 bh) (h4 : W64 bl) (w : World) (rh rl : Nat) (ok : Bool)
  (hr : if V ah al * V bh bl < 340282366920938463463374607431768211456 then ok = true ∧ rh = HI (V ah al * V bh bl) ∧ rl = LO (V ah al * V bh bl) else ok = false ∧ rh = 0 ∧ rl = 0) :
  Calls Try.prog 17 #[U ah al, U bh bl] w fun e w' => e = .returned (.tuple #[U rh rl, .bool ok]) ∧ Below w.heap.size w w' := by
 obtain ⟨x, hx⟩ : ∃ x, x = ah * bl := ⟨_, rfl⟩
 obtain ⟨y, hy⟩ : ∃ y, y = al * bh := ⟨_, rfl⟩
 obtain ⟨o, ho⟩ : ∃ o, o = al * bl := ⟨_, rfl⟩
 obtain ⟨p, hp⟩ : ∃ p, p = ah * bh := ⟨_, rfl⟩
 have hprod : V ah al * V bh bl = p * 340282366920938463463374607431768211456 + (x + y) * 18446744073709551616 + o := by
  rw [hx, hy, ho, hp]; unfold V
  rw [Nat.add_mul, Nat.mul_add, Nat.mul_add]
  rw [show ah * 18446744073709551616 * (bh * 18446744073709551616) = ah * bh * 340282366920938463463374607431768211456 by rw [Nat.mul_mul_mul_comm]]
  rw [show ah * 18446744073709551616 * bl = ah * bl * 18446744073709551616 by rw [Nat.mul_right_comm], show al * (bh * 18446744073709551616) = al * bh * 18446744073709551616 by rw [Nat.mul_assoc]]
  omega
 have hol : o < 340282366920938463463374607431768211456 := by
  rw [ho]
  have : al * bl ≤ 18446744073709551615 * 18446744073709551615 := Nat.mul_le_mul (by unfold W64 at h2; omega) (by unfold W64 at h4; omega)
  omega
 have F1 := fun w => full_any ah bl h1 h4 w
 have F2 := fun w => full_any al bh h2 h3 w
 have F3 := fun w => full_any al bl h2 h4 w
 rw [← hx] at F1
 rw [← hy] at F2
 rw [← ho] at F3
 have hlx := LO_lt x
 have hly := LO_lt y
 obtain ⟨c, cr, hc, e1, hcr⟩ : ∃ c cr, c ≤ 1 ∧ LO x + LO y + 0 = cr + 18446744073709551616 * c ∧ cr < 18446744073709551616 := ⟨(LO x + LO y) / 18446744073709551616, (LO x + LO y) % 18446744073709551616, by omega, by omega, by omega⟩
 have hoh : HI o < 18446744073709551616 := HI_lt hol
 obtain ⟨d, hi, hd, e2, hhi⟩ : ∃ d hi, d ≤ 1 ∧ HI o + cr + 0 = hi + 18446744073709551616 * d ∧ hi < 18446744073709551616 := ⟨(HI o + cr) / 18446744073709551616, (HI o + cr) % 18446744073709551616, by omega, by omega, by omega⟩
 refine mul_core ah al bh bl (HI x) (LO x) (HI y) (LO y) (HI o) (LO o) c cr d hi w F1 F2 F3 (fun w => run_add64 (LO x) (LO y) 0 cr c (by omega) e1 hcr w) (fun w => run_add64 (HI o) cr 0 hi d (by omega) e2 hhi w) rh rl ok ?_
 have hz : ah = 0 ∨ bh = 0 ∨ 0 < p := by
  rcases Nat.eq_zero_or_pos ah with h | h
  ·
   exact Or.inl h
  ·
   rcases Nat.eq_zero_or_pos bh with k | k
   ·
    exact Or.inr (Or.inl k)
   ·
    exact Or.inr (Or.inr (by rw [hp]; exact Nat.mul_pos h k))
 have hz2 : ah = 0 ∨ bh = 0 → p = 0 := by
  rintro (h | h) <;> (rw [hp, h]; simp)
 clear F1 F2 F3 hx hy ho hp
 rw [hprod] at hr
 have bx : HI x * 18446744073709551616 + LO x = x := V_HILO x
 have by' : HI y * 18446744073709551616 + LO y = y := V_HILO y
 have bo : HI o * 18446744073709551616 + LO o = o := V_HILO o
 have hlo := LO_lt o
 have bn : ∀ k : Nat, (((k : Int) != 0) = true ↔ k ≠ 0) ∧ (((k : Int) != 0) = false ↔ k = 0) := fun k => ⟨by simp, by simp⟩
 unfold Hid
 rw [(bn c).1, (bn c).2, (bn d).1, (bn d).2]
 split at hr
 ·
  rename_i hlt
  obtain ⟨r1, r2, r3⟩ := hr
  have p0 : p = 0 := by omega
  have x0 : HI x = 0 := by omega
  have y0 : HI y = 0 := by omega
  have c0 : c = 0 := by omega
  have d0 : d = 0 := by omega
  refine Or.inr ⟨⟨r1, ?_, ?_⟩, ?_, x0, y0, c0, d0⟩
  ·
   rw [r2]; unfold HI; omega
  ·
   rw [r3]; unfold LO at *; omega
  ·
   omega
 ·
  rename_i hlt
  refine Or.inl ⟨hr, ?_⟩
  by_cases k : ah = 0 ∨ bh = 0
  ·
   have p0 := hz2 k
   right
   refine ⟨by omega, ?_⟩
   by_cases k1 : HI x = 0
   ·
    by_cases k2 : HI y = 0
    ·
     by_cases k3 : c = 0
     ·
      by_cases k4 : d = 0
      ·
       exfalso; omega
      ·
       exact Or.inr (Or.inr (Or.inr ⟨k1, k2, k3, k4⟩))
     ·
      exact Or.inr (Or.inr (Or.inl ⟨k1, k2, k3⟩))
    ·
     exact Or.inr (Or.inl ⟨k1, k2⟩)
   ·
    exact Or.inl k1
  ·
   left; omega
def in64 (x : Int) : Prop := 0 ≤ x ∧ x < 18446744073709551616
instance (x : Int) : Decidable (in64 x) := by unfold in64; infer_instance
theorem in64.nat {x : Int} (h : in64 x) : ∃ n : Nat, x = n ∧ W64 n := ⟨x.toNat, by unfold in64 at h; omega, by unfold in64 at h; omega⟩
def val (h l : Int) : Nat := V h.toNat l.toNat
def sized (n : Nat) : Int × Int × Bool := if n < 340282366920938463463374607431768211456 then (((HI n : Nat) : Int), ((LO n : Nat) : Int), true) else (0, 0, false)
namespace Q
def wide_Of.f (a0 : Int) : Option (Int × Int) := if in64 a0 then some (0, a0) else none
theorem wide_Of.calls (a0 : Int) (r1 : Int) (r2 : Int) (w : World) (h : wide_Of.f a0 = some (r1, r2)) :
  Calls Try.prog 18 #[.int .u64 a0] w fun e w' => e = .returned (.agg #[.int .u64 r1, .int .u64 r2]) ∧ Below w.heap.size w w' := by
 unfold wide_Of.f at h
 split at h
 ·
  rename_i hc
  simp only [Option.some.injEq, Prod.mk.injEq] at h
  obtain ⟨rfl, rfl⟩ := h
  obtain ⟨n, rfl, _⟩ := hc.nat
  exact of_any n w
 ·
  cases h
def wide_Full.f (a0 a1 : Int) : Option (Int × Int) := if in64 a0 ∧ in64 a1 then some (((HI (a0.toNat * a1.toNat) : Nat) : Int), ((LO (a0.toNat * a1.toNat) : Nat) : Int)) else none
theorem wide_Full.calls (a0 a1 : Int) (r1 : Int) (r2 : Int) (w : World) (h : wide_Full.f a0 a1 = some (r1, r2)) :
  Calls Try.prog 19 #[.int .u64 a0, .int .u64 a1] w fun e w' => e = .returned (.agg #[.int .u64 r1, .int .u64 r2]) ∧ Below w.heap.size w w' := by
 unfold wide_Full.f at h
 split at h
 ·
  rename_i hc
  simp only [Option.some.injEq, Prod.mk.injEq] at h
  obtain ⟨rfl, rfl⟩ := h
  obtain ⟨n, rfl, hn⟩ := hc.1.nat
  obtain ⟨m, rfl, hm⟩ := hc.2.nat
  exact full_any n m hn hm w
 ·
  cases h
def wide_Cmp.f (a0_0 a0_1 a1_0 a1_1 : Int) : Option Int := if in64 a0_0 ∧ in64 a0_1 ∧ in64 a1_0 ∧ in64 a1_1 then some (cmpR (val a0_0 a0_1) (val a1_0 a1_1)) else none
theorem wide_Cmp.calls (a0_0 : Int) (a0_1 : Int) (a1_0 : Int) (a1_1 : Int) (r : Int) (w : World) (h : wide_Cmp.f a0_0 a0_1 a1_0 a1_1 = some r) :
  Calls Try.prog 24 #[.agg #[.int .u64 a0_0, .int .u64 a0_1], .agg #[.int .u64 a1_0, .int .u64 a1_1]] w fun e w' => e = .returned (.int .i64 r) ∧ Below w.heap.size w w' := by
 unfold wide_Cmp.f at h
 split at h
 ·
  rename_i hc
  obtain ⟨c1, c2, c3, c4⟩ := hc
  obtain rfl := Option.some.inj h
  obtain ⟨a, rfl, _⟩ := c1.nat
  obtain ⟨b, rfl, hb⟩ := c2.nat
  obtain ⟨c, rfl, _⟩ := c3.nat
  obtain ⟨d, rfl, hd⟩ := c4.nat
  exact cmp_any a b c d hb hd w
 ·
  cases h
def wide_Add.f (a0_0 a0_1 a1_0 a1_1 : Int) : Option (Int × Int × Bool) := if in64 a0_0 ∧ in64 a0_1 ∧ in64 a1_0 ∧ in64 a1_1 then some (sized (val a0_0 a0_1 + val a1_0 a1_1)) else none
theorem wide_Add.calls (a0_0 : Int) (a0_1 : Int) (a1_0 : Int) (a1_1 : Int) (r1 : Int) (r2 : Int) (r3 : Bool) (w : World) (h : wide_Add.f a0_0 a0_1 a1_0 a1_1 = some (r1, r2, r3)) :
  Calls Try.prog 16 #[.agg #[.int .u64 a0_0, .int .u64 a0_1], .agg #[.int .u64 a1_0, .int .u64 a1_1]] w fun e w' => e = .returned (.tuple #[.agg #[.int .u64 r1, .int .u64 r2], .bool r3]) ∧ Below w.heap.size w w' := by
 unfold wide_Add.f at h
 split at h
 ·
  rename_i hc
  obtain ⟨c1, c2, c3, c4⟩ := hc
  have h := Option.some.inj h
  obtain ⟨a, rfl, ha⟩ := c1.nat
  obtain ⟨b, rfl, hb⟩ := c2.nat
  obtain ⟨c, rfl, hc⟩ := c3.nat
  obtain ⟨d, rfl, hd⟩ := c4.nat
  unfold sized at h
  split at h
  ·
   rename_i hl
   simp only [Prod.mk.injEq] at h
   obtain ⟨rfl, rfl, rfl⟩ := h
   exact add_yes a b c d ha hb hc hd w hl
  ·
   rename_i hl
   simp only [Prod.mk.injEq] at h
   obtain ⟨rfl, rfl, rfl⟩ := h
   exact add_no a b c d ha hb hc hd w (Nat.le_of_not_lt hl)
 ·
  cases h
def wide_Sub.f (a0_0 a0_1 a1_0 a1_1 : Int) : Option (Int × Int × Bool) := if in64 a0_0 ∧ in64 a0_1 ∧ in64 a1_0 ∧ in64 a1_1 then some (if val a1_0 a1_1 ≤ val a0_0 a0_1 then (((HI (val a0_0 a0_1 - val a1_0 a1_1) : Nat) : Int), ((LO (val a0_0 a0_1 - val a1_0 a1_1) : Nat) : Int), true) else (0, 0, false)) else none
theorem wide_Sub.calls (a0_0 : Int) (a0_1 : Int) (a1_0 : Int) (a1_1 : Int) (r1 : Int) (r2 : Int) (r3 : Bool) (w : World) (h : wide_Sub.f a0_0 a0_1 a1_0 a1_1 = some (r1, r2, r3)) :
  Calls Try.prog 22 #[.agg #[.int .u64 a0_0, .int .u64 a0_1], .agg #[.int .u64 a1_0, .int .u64 a1_1]] w fun e w' => e = .returned (.tuple #[.agg #[.int .u64 r1, .int .u64 r2], .bool r3]) ∧ Below w.heap.size w w' := by
 unfold wide_Sub.f at h
 split at h
 ·
  rename_i hc
  obtain ⟨c1, c2, c3, c4⟩ := hc
  have h := Option.some.inj h
  obtain ⟨a, rfl, ha⟩ := c1.nat
  obtain ⟨b, rfl, hb⟩ := c2.nat
  obtain ⟨c, rfl, hc⟩ := c3.nat
  obtain ⟨d, rfl, hd⟩ := c4.nat
  split at h
  ·
   rename_i hl
   simp only [Prod.mk.injEq] at h
   obtain ⟨rfl, rfl, rfl⟩ := h
   exact sub_yes a b c d ha hb hc hd w hl
  ·
   rename_i hl
   simp only [Prod.mk.injEq] at h
   obtain ⟨rfl, rfl, rfl⟩ := h
   exact sub_no a b c d ha hb hc hd w (Nat.lt_of_not_le hl)
 ·
  cases h
def wide_Mul.f (a0_0 a0_1 a1_0 a1_1 : Int) : Option (Int × Int × Bool) := if in64 a0_0 ∧ in64 a0_1 ∧ in64 a1_0 ∧ in64 a1_1 then some (sized (val a0_0 a0_1 * val a1_0 a1_1)) else none
theorem wide_Mul.calls (a0_0 : Int) (a0_1 : Int) (a1_0 : Int) (a1_1 : Int) (r1 : Int) (r2 : Int) (r3 : Bool) (w : World) (h : wide_Mul.f a0_0 a0_1 a1_0 a1_1 = some (r1, r2, r3)) :
  Calls Try.prog 17 #[.agg #[.int .u64 a0_0, .int .u64 a0_1], .agg #[.int .u64 a1_0, .int .u64 a1_1]] w fun e w' => e = .returned (.tuple #[.agg #[.int .u64 r1, .int .u64 r2], .bool r3]) ∧ Below w.heap.size w w' := by
 unfold wide_Mul.f at h
 split at h
 ·
  rename_i hc
  obtain ⟨c1, c2, c3, c4⟩ := hc
  have h := Option.some.inj h
  obtain ⟨a, rfl, ha⟩ := c1.nat
  obtain ⟨b, rfl, hb⟩ := c2.nat
  obtain ⟨c, rfl, hc⟩ := c3.nat
  obtain ⟨d, rfl, hd⟩ := c4.nat
  have e : val a b * val c d = V a b * V c d := rfl
  rw [e] at h
  unfold sized at h
  split at h
  ·
   rename_i hl
   simp only [Prod.mk.injEq] at h
   obtain ⟨rfl, rfl, rfl⟩ := h
   exact mul_any a b c d ha hb hc hd w _ _ _ (by rw [if_pos hl]; exact ⟨rfl, rfl, rfl⟩)
  ·
   rename_i hl
   simp only [Prod.mk.injEq] at h
   obtain ⟨rfl, rfl, rfl⟩ := h
   exact mul_any a b c d ha hb hc hd w 0 0 false (by rw [if_neg hl]; exact ⟨rfl, rfl, rfl⟩)
 ·
  cases h
def quo (n m : Nat) : Int × Int × Int × Int × Bool := if m = 0 then (0, 0, 0, 0, false) else (((HI (n / m) : Nat) : Int), ((LO (n / m) : Nat) : Int), ((HI (n % m) : Nat) : Int), ((LO (n % m) : Nat) : Int), true)
def wide_Div.f (a0_0 a0_1 a1_0 a1_1 : Int) : Option (Int × Int × Int × Int × Bool) := if in64 a0_0 ∧ in64 a0_1 ∧ in64 a1_0 ∧ in64 a1_1 then some (quo (val a0_0 a0_1) (val a1_0 a1_1)) else none
theorem wide_Div.calls (a0_0 : Int) (a0_1 : Int) (a1_0 : Int) (a1_1 : Int) (r1 : Int) (r2 : Int) (r3 : Int) (r4 : Int) (r5 : Bool) (w : World) (h : wide_Div.f a0_0 a0_1 a1_0 a1_1 = some (r1, r2, r3, r4, r5)) :
  Calls Try.prog 20 #[.agg #[.int .u64 a0_0, .int .u64 a0_1], .agg #[.int .u64 a1_0, .int .u64 a1_1]] w fun e w' => e = .returned (.tuple #[.agg #[.int .u64 r1, .int .u64 r2], .agg #[.int .u64 r3, .int .u64 r4], .bool r5]) ∧ Below w.heap.size w w' := by
 unfold wide_Div.f at h
 split at h
 ·
  rename_i hc
  obtain ⟨c1, c2, c3, c4⟩ := hc
  have h := Option.some.inj h
  obtain ⟨a, rfl, ha⟩ := c1.nat
  obtain ⟨b, rfl, hb⟩ := c2.nat
  obtain ⟨c, rfl, hc⟩ := c3.nat
  obtain ⟨d, rfl, hd⟩ := c4.nat
  have e1 : val a b = V a b := rfl
  have e2 : val c d = V c d := rfl
  rw [e1, e2] at h
  unfold quo at h
  rcases Nat.eq_zero_or_pos c with rfl | hc0
  ·
   have e3 : V 0 d = d := by unfold V; omega
   rw [e3] at h
   rcases Nat.eq_zero_or_pos d with rfl | hd0
   ·
    rw [if_pos rfl] at h
    simp only [Prod.mk.injEq] at h
    obtain ⟨rfl, rfl, rfl, rfl, rfl⟩ := h
    exact div_zero a b w
   ·
    rw [if_neg (by omega)] at h
    simp only [Prod.mk.injEq] at h
    obtain ⟨rfl, rfl, rfl, rfl, rfl⟩ := h
    have hm : V a b % d < 18446744073709551616 := Nat.lt_trans (Nat.mod_lt _ hd0) hd
    have := div_short a b d ha hb hd hd0 w
    rw [show HI (V a b % d) = 0 by unfold HI; omega, show LO (V a b % d) = V a b % d by unfold LO; omega]
    exact this
  ·
   rw [if_neg (by unfold V; omega)] at h
   simp only [Prod.mk.injEq] at h
   obtain ⟨rfl, rfl, rfl, rfl, rfl⟩ := h
   exact div_long a b c d ha hb hc hd hc0 w
 ·
  cases h
end Q
end Go.Proofs.Ytbpcehbcbcojiaa
