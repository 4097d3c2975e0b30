import Derived.Test.YtbpcehbcbcojiaaEx5
import Derived.Test.YtbpcehbcbcojiaaTR
namespace Go.Proofs.Ytbpcehbcbcojiaa
open Go.RowKit Go.Proofs.YtbpcehbcbcojiaaW.PrintWords Go.Proofs.YtbpcehbcbcojiaaW.PrintLast Go.Proofs.YtbpcehbcbcojiaaW.PrintMore
set_option linter.unusedVariables false
namespace Dv
theorem bit_low (h l i : Nat) (hi : i < 64) : (h * 18446744073709551616 + l) / 2 ^ i % 2 = l / 2 ^ i % 2 := by
 obtain ⟨d, hd⟩ : ∃ d, 64 = i + (d + 1) := ⟨63 - i, by omega⟩
 have e : 18446744073709551616 = 2 ^ i * (2 * 2 ^ d) := by
  rw [show 2 ^ i * (2 * 2 ^ d) = 2 ^ (i + (d + 1)) by rw [Nat.pow_add, Nat.pow_succ]; ac_rfl, ← hd]
 have hp : 0 < 2 ^ i := Nat.pos_of_ne_zero (by simp)
 rw [e, show h * (2 ^ i * (2 * 2 ^ d)) + l = l + 2 ^ i * (2 * (2 ^ d * h)) by rw [Nat.add_comm]; congr 1; ac_rfl, Nat.add_mul_div_left _ _ hp, Nat.add_mul_mod_self_left]
theorem bit_high (h l m : Nat) (hl : l < 18446744073709551616) : (h * 18446744073709551616 + l) / 2 ^ (64 + m) = h / 2 ^ m := by
 rw [Nat.pow_add, ← Nat.div_div_eq_div_mul, show (2 : Nat) ^ 64 = 18446744073709551616 by decide, show (h * 18446744073709551616 + l) / 18446744073709551616 = h by omega]
theorem div_next {X B n : Nat} (hB : 0 < B) (hn : n ≤ 1) :
  (B ≤ 2 * (X % B) + n → (2 * X + n) / B = 2 * (X / B) + 1 ∧ (2 * X + n) % B = 2 * (X % B) + n - B) ∧ (¬ B ≤ 2 * (X % B) + n → (2 * X + n) / B = 2 * (X / B) ∧ (2 * X + n) % B = 2 * (X % B) + n) := by
 have h1 := Nat.div_add_mod X B
 have h2 := Nat.mod_lt X hB
 generalize X / B = q at *
 generalize X % B = r at *
 constructor
 ·
  intro h
  have e : 2 * X + n = (2 * r + n - B) + B * (2 * q + 1) := by rw [← h1, Nat.mul_add B, show B * (2 * q) = 2 * (B * q) by ac_rfl]; omega
  rw [e, Nat.add_mul_div_left _ _ hB, Nat.add_mul_mod_self_left]
  exact ⟨by rw [Nat.div_eq_of_lt (by omega)]; omega, Nat.mod_eq_of_lt (by omega)⟩
 ·
  intro h
  have e : 2 * X + n = (2 * r + n) + B * (2 * q) := by rw [← h1, show B * (2 * q) = 2 * (B * q) by ac_rfl]; omega
  rw [e, Nat.add_mul_div_left _ _ hB, Nat.add_mul_mod_self_left]
  exact ⟨by rw [Nat.div_eq_of_lt (by omega)]; omega, Nat.mod_eq_of_lt (by omega)⟩
end Dv
theorem hilo_in {n : Nat} (h : n < M128) : in64 ((HI n : Nat) : Int) ∧ in64 ((LO n : Nat) : Int) := ⟨in64_nat (HI_lt h), in64_nat (LO_lt n)⟩
theorem sized_ok {n : Nat} (h : n < M128) : sized n = (((HI n : Nat) : Int), ((LO n : Nat) : Int), true) := by unfold sized; exact if_pos h
theorem addD_f (a b : Nat) (h1 : a < M128) (h2 : b < M128) : Q.samphireref01_Add.f ((HI a : Nat) : Int) ((LO a : Nat) : Int) ((HI b : Nat) : Int) ((LO b : Nat) : Int) = some (sized (a + b)) := by
 unfold Q.samphireref01_Add.f
 rw [if_pos ⟨(hilo_in h1).1, (hilo_in h1).2, (hilo_in h2).1, (hilo_in h2).2⟩, val_HILO, val_HILO]
theorem subD_f (a b : Nat) (h1 : a < M128) (h2 : b < M128) (hle : b ≤ a) : Q.samphireref01_Sub.f ((HI a : Nat) : Int) ((LO a : Nat) : Int) ((HI b : Nat) : Int) ((LO b : Nat) : Int) = some (((HI (a - b) : Nat) : Int), ((LO (a - b) : Nat) : Int), true) := by
 unfold Q.samphireref01_Sub.f
 rw [if_pos ⟨(hilo_in h1).1, (hilo_in h1).2, (hilo_in h2).1, (hilo_in h2).2⟩, val_HILO, val_HILO, if_pos hle]
theorem cmpD_f (a b : Nat) (h1 : a < M128) (h2 : b < M128) : Q.samphireref01_Cmp.f ((HI a : Nat) : Int) ((LO a : Nat) : Int) ((HI b : Nat) : Int) ((LO b : Nat) : Int) = some (cmpR a b) := by
 unfold Q.samphireref01_Cmp.f
 rw [if_pos ⟨(hilo_in h1).1, (hilo_in h1).2, (hilo_in h2).1, (hilo_in h2).2⟩, val_HILO, val_HILO]
theorem small_hilo (n : Nat) (h : W64 n) : ((HI n : Nat) : Int) = 0 ∧ ((LO n : Nat) : Int) = (n : Int) := ⟨by unfold HI; omega, by unfold LO; omega⟩
theorem bit_f (A i : Nat) (hA : A < M128) (hi : i < 128) : E.samphireref01_bit.f ((HI A : Nat) : Int) ((LO A : Nat) : Int) (i : Int) = some ((A / 2 ^ i % 2 : Nat) : Int) := by
 have eA := V_HILO A
 have hl := LO_lt A
 generalize HI A = h at *
 generalize LO A = l at *
 subst eA
 unfold E.samphireref01_bit.f shr V
 by_cases h64 : i < 64
 ·
  rw [if_pos (by omega), u64w _ (by omega), if_pos (by omega), Dv.bit_low h l i h64, Int.toNat_natCast, Nat.min_eq_left (by show i ≤ 64; omega)]
  rw [show ((l : Int) / 2 ^ i) = ((l / 2 ^ i : Nat) : Int) by rw [Int.natCast_ediv, Int.natCast_pow]; rfl]
  rfl
 ·
  obtain ⟨m, rfl⟩ : ∃ m, i = 64 + m := ⟨i - 64, by omega⟩
  have e : wrap64 (((64 + m : Nat) : Int) - 64) = (m : Int) := by unfold wrap64; omega
  rw [if_neg (by omega), e, u64w _ (by omega), if_pos (by omega), Dv.bit_high h l m hl, Int.toNat_natCast, Nat.min_eq_left (by show m ≤ 64; omega)]
  rw [show ((h : Int) / 2 ^ m) = ((h / 2 ^ m : Nat) : Int) by rw [Int.natCast_ediv, Int.natCast_pow]; rfl]
  rfl
theorem half_f (B : Nat) (hB : B < M128) : E.samphireref01_half.f ((HI B : Nat) : Int) ((LO B : Nat) : Int) = some (((HI (B / 2) : Nat) : Int), ((LO (B / 2) : Nat) : Int)) := by
 have eB := V_HILO B
 have hl := LO_lt B
 have hh := HI_lt hB
 generalize HI B = h at *
 generalize LO B = l at *
 subst eB
 have e1 : V h l / 2 = V (h / 2) (l / 2 + h % 2 * 9223372036854775808) := by unfold V; omega
 have hw : W64 (l / 2 + h % 2 * 9223372036854775808) := by unfold W64; omega
 rw [e1, HI_V hw, LO_V hw]
 unfold E.samphireref01_half.f
 rw [show Int.tdiv (h : Int) 2 = ((h / 2 : Nat) : Int) from rfl, show Int.tdiv (l : Int) 2 = ((l / 2 : Nat) : Int) from rfl, show Int.tmod (h : Int) 2 = ((h % 2 : Nat) : Int) from rfl]
 rw [u64w _ (by omega), u64w _ (by omega), show ((h % 2 : Nat) : Int) * 9223372036854775808 = ((h % 2 * 9223372036854775808 : Nat) : Int) by omega, u64w _ (by omega)]
 rw [w64s rfl hw]
def hup (B n : Nat) : Nat := if B % 2 = 1 ∧ n = 0 then B / 2 + 1 else B / 2
theorem halfUp_f (B n : Nat) (hB : B < M128) (hn : n ≤ 1) : E.samphireref01_halfUp.f ((HI B : Nat) : Int) ((LO B : Nat) : Int) (n : Int) = some (((HI (hup B n) : Nat) : Int), ((LO (hup B n) : Nat) : Int)) := by
 unfold E.samphireref01_halfUp.f
 refine D.bnd (half_f B hB) ?_
 dsimp only
 have e : Int.tmod ((LO B : Nat) : Int) 2 = ((B % 2 : Nat) : Int) := by
  rw [show Int.tmod ((LO B : Nat) : Int) 2 = ((LO B % 2 : Nat) : Int) from rfl]
  congr 1; unfold LO; omega
 rw [e]
 unfold hup
 by_cases h : B % 2 = 1
 ·
  rw [if_pos (by omega)]
  by_cases h0 : n = 0
  ·
   rw [if_pos (by omega), if_pos ⟨h, h0⟩]
   have ha := addD_f (B / 2) 1 (by unfold M128 at *; omega) (by decide)
   rw [show ((HI 1 : Nat) : Int) = 0 from rfl, show ((LO 1 : Nat) : Int) = 1 from rfl] at ha
   refine D.bnd ha ?_
   rw [sized_ok (by unfold M128 at *; omega)]
  ·
   rw [if_neg (by omega), if_neg (fun g => h0 g.2)]
 ·
  rw [if_neg (by omega), if_neg (fun g => h g.1)]
theorem hup_le (r B n : Nat) (hn : n ≤ 1) : hup B n ≤ r ↔ B ≤ 2 * r + n := by
 unfold hup
 split <;> omega
theorem cmpR_ge (a b : Nat) : cmpR a b ≥ 0 ↔ b ≤ a := by
 unfold cmpR
 by_cases h : a < b
 ·
  rw [if_pos h]; constructor
  ·
   intro g; exact absurd g (by decide)
  ·
   intro g; omega
 ·
  rw [if_neg h]; constructor
  ·
   intro _; omega
  ·
   intro _; split <;> decide
theorem divD_loop (A B : Nat) (hA : A < M128) (hB : B < M128) (hB0 : 0 < B) (m : Nat) : ∀ k, m ≤ 128 → m < k →
  E.samphireref01_Div.l0 k ((m : Int) - 1) ((HI A : Nat) : Int) ((LO A : Nat) : Int) ((HI B : Nat) : Int) ((LO B : Nat) : Int) ((HI (A / 2 ^ m / B) : Nat) : Int) ((LO (A / 2 ^ m / B) : Nat) : Int) ((HI (A / 2 ^ m % B) : Nat) : Int) ((LO (A / 2 ^ m % B) : Nat) : Int) =
   some (((HI (A / B) : Nat) : Int), ((LO (A / B) : Nat) : Int), ((HI (A % B) : Nat) : Int), ((LO (A % B) : Nat) : Int), true) := by
 induction m with
 | zero =>
  intro k _ hk
  obtain ⟨k, rfl⟩ : ∃ j, k = j + 1 := ⟨k - 1, by omega⟩
  rw [E.samphireref01_Div.l0, if_neg (by decide), Nat.pow_zero, Nat.div_one]
 | succ m ih =>
  intro k hm hk
  obtain ⟨k, rfl⟩ : ∃ j, k = j + 1 := ⟨k - 1, by omega⟩
  have ei : ((m + 1 : Nat) : Int) - 1 = (m : Int) := by omega
  have ew : wrap64 ((m : Int) - 1) = (m : Int) - 1 := by unfold wrap64; omega
  have IH := ih k (by omega) (by omega)
  have eX : A / 2 ^ m = 2 * (A / 2 ^ (m + 1)) + A / 2 ^ m % 2 := by rw [Nat.pow_succ, ← Nat.div_div_eq_div_mul]; omega
  have hn : A / 2 ^ m % 2 ≤ 1 := by omega
  have hX : A / 2 ^ m ≤ A := Nat.div_le_self _ _
  have hbit := bit_f A m hA (by omega)
  rw [ei, E.samphireref01_Div.l0, if_pos (by omega), ew]
  generalize A / 2 ^ m % 2 = n at *
  generalize A / 2 ^ m = Y at *
  generalize A / 2 ^ (m + 1) = X at *
  obtain ⟨hge, hlt⟩ := Dv.div_next (X := X) hB0 hn
  rw [← eX] at hge hlt
  have hr := Nat.mod_lt X hB0
  have hq2 : X / B + X / B ≤ Y / B := by
   by_cases h : B ≤ 2 * (X % B) + n
   ·
    rw [(hge h).1]; omega
   ·
    rw [(hlt h).1]; omega
  have hYB : Y / B ≤ Y := Nat.div_le_self _ _
  refine D.bnd hbit ?_
  refine D.bnd (addD_f (X / B) (X / B) (by omega) (by omega)) ?_
  rw [sized_ok (show X / B + X / B < M128 by omega)]
  refine D.bnd (halfUp_f B n hB hn) ?_
  dsimp only
  have hhu : hup B n ≤ B := by unfold hup; split <;> omega
  refine D.bnd (cmpD_f (X % B) (hup B n) (by omega) (by omega)) ?_
  by_cases hc : B ≤ 2 * (X % B) + n
  ·
   rw [if_pos ((cmpR_ge _ _).2 ((hup_le _ _ _ hn).2 hc))]
   refine D.bnd (subD_f B (X % B) hB (by omega) (by omega)) ?_
   dsimp only
   obtain ⟨n0, n1⟩ := small_hilo n (by unfold W64; omega)
   have ha := addD_f (X % B) n (by omega) (by unfold M128; omega)
   rw [n0, n1, sized_ok (show X % B + n < M128 by omega)] at ha
   refine D.bnd ha ?_
   dsimp only
   refine D.bnd (subD_f (X % B + n) (B - X % B) (by omega) (by omega) (by omega)) ?_
   dsimp only
   have ha2 := addD_f (X / B + X / B) 1 (by omega) (by decide)
   rw [show ((HI 1 : Nat) : Int) = 0 from rfl, show ((LO 1 : Nat) : Int) = 1 from rfl] at ha2
   have e1 : X / B + X / B + 1 = Y / B := by rw [(hge hc).1]; omega
   have e2 : X % B + n - (B - X % B) = Y % B := by rw [(hge hc).2]; omega
   rw [e1, sized_ok (show Y / B < M128 by omega)] at ha2
   refine D.bnd ha2 ?_
   dsimp only
   rw [e2]
   exact IH
  ·
   rw [if_neg (fun g => hc ((hup_le _ _ _ hn).1 ((cmpR_ge _ _).1 g)))]
   have ha := addD_f (X % B) (X % B) (by omega) (by omega)
   rw [sized_ok (show X % B + X % B < M128 by omega)] at ha
   refine D.bnd ha ?_
   dsimp only
   obtain ⟨n0, n1⟩ := small_hilo n (by unfold W64; omega)
   have ha2 := addD_f (X % B + X % B) n (by omega) (by unfold M128; omega)
   have e1 : X / B + X / B = Y / B := by rw [(hlt hc).1]; omega
   have e2 : X % B + X % B + n = Y % B := by rw [(hlt hc).2]; omega
   have hYr := Nat.mod_lt Y hB0
   rw [n0, n1, e2, sized_ok (show Y % B < M128 by omega)] at ha2
   refine D.bnd ha2 ?_
   dsimp only
   rw [e1]
   exact IH
theorem divD_f (A B : Nat) (hA : A < M128) (hB : B < M128) (k : Nat) (hk : 128 < k) : E.samphireref01_Div.f k ((HI A : Nat) : Int) ((LO A : Nat) : Int) ((HI B : Nat) : Int) ((LO B : Nat) : Int) = some (Q.quo A B) := by
 unfold E.samphireref01_Div.f Q.quo
 have hV := V_HILO B
 unfold V at hV
 by_cases h0 : B = 0
 ·
  subst h0; rfl
 ·
  rw [if_neg h0, if_neg]
  ·
   have := divD_loop A B hA hB (by omega) 128 k (by omega) hk
   rw [Nat.div_eq_of_lt (show A < 2 ^ 128 from hA), Nat.zero_div, Nat.zero_mod] at this
   exact this
  ·
   intro hc
   simp only [Bool.and_eq_true, beq_iff_eq] at hc
   omega
end Go.Proofs.Ytbpcehbcbcojiaa
