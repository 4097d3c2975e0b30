import Derived.Test.YtobdhjnaglikaaaRf
namespace Go.Proofs.Ytobdhjnaglikaaa
open Go.RowKit
set_option linter.unusedVariables false
def in64 (x : Int) : Prop := 0 ≤ x ∧ x < 18446744073709551616
instance (x : Int) : Decidable (in64 x) := by unfold in64; infer_instance
theorem in64.nat {x : Int} (h : in64 x) : ∃ n : Nat, x = n ∧ W64 n := ⟨x.toNat, by unfold in64 at h; omega, by unfold in64 at h; omega⟩
def val (h l : Int) : Nat := V h.toNat l.toNat
def sized (n : Nat) : Int × Int × Bool := if n < 340282366920938463463374607431768211456 then (((HI n : Nat) : Int), ((LO n : Nat) : Int), true) else (0, 0, false)
namespace Q
def samphireref01_Cmp.f (a0_0 a0_1 a1_0 a1_1 : Int) : Option Int := if in64 a0_0 ∧ in64 a0_1 ∧ in64 a1_0 ∧ in64 a1_1 then some (cmpR (val a0_0 a0_1) (val a1_0 a1_1)) else none
theorem samphireref01_Cmp.calls (a0_0 : Int) (a0_1 : Int) (a1_0 : Int) (a1_1 : Int) (r : Int) (w : World) (h : samphireref01_Cmp.f a0_0 a0_1 a1_0 a1_1 = some r) :
  Calls Try.prog 41 #[.agg #[.int .u64 a0_0, .int .u64 a0_1], .agg #[.int .u64 a1_0, .int .u64 a1_1]] w fun e w' => e = .returned (.int .i64 r) ∧ Below w.heap.size w w' := by
 unfold samphireref01_Cmp.f at h
 split at h
 ·
  rename_i hc
  obtain ⟨c1, c2, c3, c4⟩ := hc
  obtain rfl := Option.some.inj h
  obtain ⟨a, rfl, ha⟩ := c1.nat
  obtain ⟨b, rfl, hb⟩ := c2.nat
  obtain ⟨c, rfl, hc⟩ := c3.nat
  obtain ⟨d, rfl, hd⟩ := c4.nat
  exact cmpD_any a b c d ha hb hc hd w
 ·
  cases h
def samphireref01_Mul.f (a0_0 a0_1 a1_0 a1_1 : Int) : Option (Int × Int × Bool) := if in64 a0_0 ∧ in64 a0_1 ∧ in64 a1_0 ∧ in64 a1_1 then some (sized (val a0_0 a0_1 * val a1_0 a1_1)) else none
theorem samphireref01_Mul.calls (a0_0 : Int) (a0_1 : Int) (a1_0 : Int) (a1_1 : Int) (r1 : Int) (r2 : Int) (r3 : Bool) (w : World) (h : samphireref01_Mul.f a0_0 a0_1 a1_0 a1_1 = some (r1, r2, r3)) :
  Calls Try.prog 47 #[.agg #[.int .u64 a0_0, .int .u64 a0_1], .agg #[.int .u64 a1_0, .int .u64 a1_1]] w fun e w' => e = .returned (.tuple #[.agg #[.int .u64 r1, .int .u64 r2], .bool r3]) ∧ Below w.heap.size w w' := by
 unfold samphireref01_Mul.f at h
 split at h
 ·
  rename_i hc
  obtain ⟨c1, c2, c3, c4⟩ := hc
  have h := Option.some.inj h
  obtain ⟨a, rfl, ha⟩ := c1.nat
  obtain ⟨b, rfl, hb⟩ := c2.nat
  obtain ⟨c, rfl, hc⟩ := c3.nat
  obtain ⟨d, rfl, hd⟩ := c4.nat
  have e : val a b * val c d = V a b * V c d := rfl
  rw [e] at h
  unfold sized at h
  split at h
  ·
   rename_i hl
   simp only [Prod.mk.injEq] at h
   obtain ⟨rfl, rfl, rfl⟩ := h
   exact mulD_any a b c d ha hb hc hd w _ _ _ (by rw [if_pos hl]; exact ⟨rfl, rfl, rfl⟩)
  ·
   rename_i hl
   simp only [Prod.mk.injEq] at h
   obtain ⟨rfl, rfl, rfl⟩ := h
   exact mulD_any a b c d ha hb hc hd w 0 0 false (by rw [if_neg hl]; exact ⟨rfl, rfl, rfl⟩)
 ·
  cases h
end Q
end Go.Proofs.Ytobdhjnaglikaaa
