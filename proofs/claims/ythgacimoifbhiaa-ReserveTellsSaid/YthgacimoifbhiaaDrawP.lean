import Derived.Test.YthgacimoifbhiaaTx4
import Derived.Test.YthgacimoifbhiaaQx1
import Derived.Laws.Bits64b
import Derived.Lib.ItoaNum
namespace Go.Proofs.Ythgacimoifbhiaa.DrawP
open Go.RowKit Go.Proofs.Ythgacimoifbhiaa.Q Go.Proofs.Ythgacimoifbhiaa.T Go.Proofs.YthgacimoifbhiaaW.PrintWords Go.Proofs.YthgacimoifbhiaaW.PrintLast
set_option linter.unusedVariables false
set_option linter.unusedSimpArgs false
set_option exponentiation.threshold 4096
theorem bnd {α β : Type} {o : Option α} {f : α → Option β} {x : α} {r : Option β} (h : o = some x) (h2 : f x = r) : o.bind f = r := by subst h; exact h2
theorem ift {α : Type} {c : Prop} {d : Decidable c} {x y r : α} (h : c) (h2 : x = r) : (@ite α c d x y) = r := by rw [if_pos h]; exact h2
theorem iff_ {α : Type} {c : Prop} {d : Decidable c} {x y r : α} (h : ¬ c) (h2 : y = r) : (@ite α c d x y) = r := by rw [if_neg h]; exact h2
theorem wrap64_nat (n : Nat) (h : n < 9223372036854775808) : wrap64 (n : Int) = (n : Int) := by unfold wrap64; omega
def I (xs : List Nat) : List Int := xs.map (fun x : Nat => (x : Int))
theorem I_length (xs : List Nat) : (I xs).length = xs.length := by simp [I]
theorem I_snoc (xs : List Nat) (y : Nat) : I xs ++ [(y : Int)] = I (xs ++ [y]) := by simp [I]
theorem I_take (xs : List Nat) (n : Nat) : (I xs).take n = I (xs.take n) := by simp [I, List.map_take]
theorem I_set (xs : List Nat) (i y : Nat) : (I xs).set i (y : Int) = I (xs.set i y) := by simp [I, List.map_set]
theorem rd_I (xs : List Nat) (i : Nat) : rd (I xs) (i : Int) = ((xs.getD i 0 : Nat) : Int) := by
 unfold rd I
 simp only [Int.toNat_natCast, List.getD_eq_getElem?_getD, List.getElem?_map]
 cases xs[i]? <;> rfl
def val (B : Nat) : List Nat → Nat
 | [] => 0
 | x :: xs => x + B * val B xs
def Dig (B : Nat) (xs : List Nat) : Prop := ∀ x ∈ xs, x < B
theorem Dig.nil (B : Nat) : Dig B [] := fun _ h => by cases h
theorem Dig.cons {B x : Nat} {xs : List Nat} (h : x < B) (hs : Dig B xs) : Dig B (x :: xs) := fun y hy => by
 rcases List.mem_cons.1 hy with rfl | hy
 ·
  exact h
 ·
  exact hs y hy
theorem Dig.head {B x : Nat} {xs : List Nat} (h : Dig B (x :: xs)) : x < B := h x (List.mem_cons_self ..)
theorem Dig.tail {B x : Nat} {xs : List Nat} (h : Dig B (x :: xs)) : Dig B xs := fun y hy => h y (List.mem_cons_of_mem _ hy)
theorem Dig.take {B : Nat} {xs : List Nat} (h : Dig B xs) (n : Nat) : Dig B (xs.take n) := fun x hx => h x (List.mem_of_mem_take hx)
theorem Dig.drop {B : Nat} {xs : List Nat} (h : Dig B xs) (n : Nat) : Dig B (xs.drop n) := fun x hx => h x (List.mem_of_mem_drop hx)
theorem Dig.append {B : Nat} {xs ys : List Nat} (h : Dig B xs) (k : Dig B ys) : Dig B (xs ++ ys) := fun x hx => by
 rcases List.mem_append.1 hx with hx | hx
 ·
  exact h x hx
 ·
  exact k x hx
theorem Dig.getD {B : Nat} {xs : List Nat} (h : Dig B xs) (hB : 0 < B) (i : Nat) : xs.getD i 0 < B := by
 rw [List.getD_eq_getElem?_getD]
 rcases hx : xs[i]? with _ | x
 ·
  exact hB
 ·
  exact h x (List.mem_of_getElem? hx)
theorem val_append (B : Nat) (xs ys : List Nat) : val B (xs ++ ys) = val B xs + B ^ xs.length * val B ys := by
 induction xs with
 | nil => simp [val]
 | cons x xs ih =>
  show x + B * val B (xs ++ ys) = x + B * val B xs + B ^ (xs.length + 1) * val B ys
  rw [ih, Nat.mul_add, Nat.pow_succ, Nat.mul_comm (B ^ xs.length) B, Nat.mul_assoc, Nat.add_assoc]
theorem val_lt {B : Nat} {xs : List Nat} (h : Dig B xs) : val B xs < B ^ xs.length := by
 induction xs with
 | nil => exact Nat.one_pos
 | cons x xs ih =>
  have h1 := ih h.tail
  have h2 := h.head
  show x + B * val B xs < B ^ (xs.length + 1)
  rw [Nat.pow_succ, Nat.mul_comm _ B]
  calc x + B * val B xs < B + B * val B xs := Nat.add_lt_add_right h2 _
   _ = B * (val B xs + 1) := by rw [Nat.mul_add, Nat.mul_one, Nat.add_comm]
   _ ≤ B * B ^ xs.length := Nat.mul_le_mul_left _ h1
theorem take_succ_getD (xs : List Nat) (n : Nat) (h : n < xs.length) : xs.take (n + 1) = xs.take n ++ [xs.getD n 0] := by
 rw [List.take_add_one, List.getD_eq_getElem?_getD, List.getElem?_eq_getElem h]; rfl
def limbs (n : Nat) : List Nat := if n = 0 then [] else n % 4294967296 :: limbs (n / 4294967296)
theorem limbs_zero : limbs 0 = [] := by rw [limbs]; rfl
theorem limbs_pos (n : Nat) (h : n ≠ 0) : limbs n = n % 4294967296 :: limbs (n / 4294967296) := by rw [limbs, if_neg h]
theorem limbs_dig (n : Nat) : Dig 4294967296 (limbs n) := by
 induction n using Nat.strongRecOn with
 | ind n ih =>
  by_cases h : n = 0
  ·
   subst h; rw [limbs_zero]; exact Dig.nil _
  ·
   rw [limbs_pos n h]; exact Dig.cons (Nat.mod_lt _ (by decide)) (ih _ (Nat.div_lt_self (by omega) (by decide)))
theorem val_limbs (n : Nat) : val 4294967296 (limbs n) = n := by
 induction n using Nat.strongRecOn with
 | ind n ih =>
  by_cases h : n = 0
  ·
   subst h; rw [limbs_zero]; rfl
  ·
   rw [limbs_pos n h, val, ih _ (Nat.div_lt_self (by omega) (by decide))]; omega
theorem limbs_val : ∀ (xs : List Nat), Dig 4294967296 xs → xs.getLast? ≠ some 0 → limbs (val 4294967296 xs) = xs
 | [], _, _ => limbs_zero
 | [x], h, hl => by
  have h1 := h.head
  have h2 : x ≠ 0 := fun e => hl (by rw [e]; rfl)
  rw [val, val, limbs_pos _ (by omega), show (x + 4294967296 * 0) / 4294967296 = 0 by omega, limbs_zero, show (x + 4294967296 * 0) % 4294967296 = x by omega]
 | x :: y :: ys, h, hl => by
  have h1 := h.head
  have ih := limbs_val (y :: ys) h.tail (by rw [List.getLast?_cons_cons] at hl; exact hl)
  rw [val]
  generalize val 4294967296 (y :: ys) = v at ih
  have hv : v ≠ 0 := fun e => by rw [e, limbs_zero] at ih; cases ih
  rw [limbs_pos _ (by omega), show (x + 4294967296 * v) / 4294967296 = v by omega, ih, show (x + 4294967296 * v) % 4294967296 = x by omega]
theorem limbs_snoc (xs : List Nat) (x : Nat) (h : Dig 4294967296 xs) (hx : x < 4294967296) (h0 : x ≠ 0) : limbs (val 4294967296 (xs ++ [x])) = xs ++ [x] :=
 limbs_val _ (h.append (Dig.cons hx (Dig.nil _))) (by rw [List.getLast?_concat]; intro e; exact h0 (Option.some.inj e))
theorem limbs_last (n : Nat) (h : n ≠ 0) : (limbs n).getD ((limbs n).length - 1) 0 ≠ 0 := by
 induction n using Nat.strongRecOn with
 | ind n ih =>
  rw [limbs_pos n h]
  by_cases h1 : n / 4294967296 = 0
  ·
   rw [h1, limbs_zero]; show n % 4294967296 ≠ 0; omega
  ·
   have := ih _ (Nat.div_lt_self (by omega) (by decide)) h1
   have h2 : (limbs (n / 4294967296)).length ≠ 0 := by rw [limbs_pos _ h1]; simp
   generalize limbs (n / 4294967296) = L at this h2
   obtain ⟨m, hm⟩ : ∃ m, L.length = m + 1 := ⟨L.length - 1, by omega⟩
   rw [hm] at this
   rw [List.length_cons, hm]
   exact this
theorem limbs_len (n j : Nat) : (limbs n).length ≤ j ↔ n < 4294967296 ^ j := by
 induction j generalizing n with
 | zero =>
  by_cases h : n = 0
  ·
   subst h; rw [limbs_zero]; simp
  ·
   rw [limbs_pos n h]; simp; omega
 | succ j ih =>
  by_cases h : n = 0
  ·
   subst h; rw [limbs_zero]; simp
   exact Nat.pow_pos (by decide)
  ·
   rw [limbs_pos n h, List.length_cons, Nat.add_le_add_iff_right, ih, Nat.pow_succ, Nat.div_lt_iff_lt_mul (by decide)]
theorem limbs_ne_nil (n : Nat) (h : n ≠ 0) : (limbs n).length ≠ 0 := by rw [limbs_pos n h]; simp
theorem val_take_succ {B : Nat} (xs : List Nat) (n : Nat) (h : n < xs.length) : val B (xs.take (n + 1)) = val B (xs.take n) + B ^ n * xs.getD n 0 := by
 rw [take_succ_getD xs n h, val_append, List.length_take, Nat.min_eq_left (by omega), val, val, Nat.mul_zero, Nat.add_zero]
theorem mask (m : Nat) (hm : m ≤ 64) : IntKind.u64.wrap ((shl .u64 1 (m : Int)) - 1) = ((2 ^ m - 1 : Nat) : Int) := by
 have h : ∀ m : Fin 65, IntKind.u64.wrap ((shl .u64 1 (m.val : Int)) - 1) = ((2 ^ m.val - 1 : Nat) : Int) := by decide +kernel
 exact h ⟨m, by omega⟩
theorem pow64 (m : Nat) (hm : m ≤ 64) : 2 ^ m - 1 < 18446744073709551616 := by
 have h : ∀ m : Fin 65, 2 ^ m.val - 1 < 18446744073709551616 := by decide +kernel
 exact h ⟨m, by omega⟩
theorem masked (x : Nat) (hx : x < 18446744073709551616) (m : Nat) (hm : m ≤ 64) : Go.bits .and .u64 (x : Int) (IntKind.u64.wrap ((shl .u64 1 (m : Int)) - 1)) = ((x % 2 ^ m : Nat) : Int) := by
 rw [mask m hm, bits_and_u64_nat _ _ hx (pow64 m hm), Nat.and_two_pow_sub_one_eq_mod]
def pick (M d : Nat) : List Nat → Nat → Option (Nat × Nat)
 | [], _ => none
 | x :: xs, i => if x % M < d then some (x % M, i + 1) else pick M d xs (i + 1)
def Words (l : List Int) (xs : List Nat) : Prop := l = xs.map (fun x : Nat => (x : Int)) ∧ ∀ x ∈ xs, x < 18446744073709551616
theorem words_of (l : List Int) (h : ∀ x ∈ l, (Lit.int .u64 x).wf = true) : ∃ xs, Words l xs := by
 refine ⟨l.map Int.toNat, ?_, ?_⟩
 ·
  rw [List.map_map]
  conv => lhs; rw [← List.map_id l]
  refine List.map_congr_left fun x hx => ?_
  have := h x hx
  simp [Lit.wf, IntKind.min, IntKind.max, IntKind.signed, IntKind.bits] at this
  simp only [id, Function.comp]
  omega
 ·
  intro x hx
  obtain ⟨y, hy, rfl⟩ := List.mem_map.1 hx
  have := h y hy
  simp [Lit.wf, IntKind.min, IntKind.max, IntKind.signed, IntKind.bits] at this
  omega
theorem Words.length {l : List Int} {xs : List Nat} (h : Words l xs) : l.length = xs.length := by rw [h.1, List.length_map]
theorem Words.drop {l : List Int} {xs : List Nat} (h : Words l xs) (n : Nat) : Words (l.drop n) (xs.drop n) := ⟨by rw [h.1, List.map_drop], fun x hx => h.2 x (List.mem_of_mem_drop hx)⟩
theorem Words.rd {l : List Int} {xs : List Nat} (h : Words l xs) (i : Nat) : rd l (i : Int) = ((xs.getD i 0 : Nat) : Int) := by
 rw [h.1]; unfold Go.Proofs.YthgacimoifbhiaaW.PrintWords.rd
 simp only [Int.toNat_natCast, List.getD_eq_getElem?_getD, List.getElem?_map]
 cases xs[i]? <;> rfl
theorem Words.lt {l : List Int} {xs : List Nat} (h : Words l xs) (i : Nat) : xs.getD i 0 < 18446744073709551616 := by
 rw [List.getD_eq_getElem?_getD]
 rcases hx : xs[i]? with _ | x
 ·
  decide
 ·
  exact h.2 x (List.mem_of_getElem? hx)
theorem wrap64_add1 (n : Nat) (h : n < 9223372036854775807) : wrap64 ((n : Int) + 1) = ((n + 1 : Nat) : Int) := by unfold wrap64; omega
theorem below_loop (d m : Nat) (hm : m ≤ 64) (l0 : List Int) (at_ : Nat) {l : List Int} {xs : List Nat} (h : Words l xs) (hl : xs.length + at_ < 9223372036854775807) (n : Nat) : ∀ (i k : Nat), i + n = xs.length → n < k →
  draw_Below.l0 k (d : Int) (m : Int) l (l.length : Int) (i : Int) l0 (at_ : Int) = some (match pick (2 ^ m) d (xs.drop i) i with
   | some (x, j) => ((x : Int), l0, ((at_ + j : Nat) : Int), 0)
   | none => (0, l0, (at_ : Int), 8)) := by
 induction n with
 | zero =>
  intro i k hi hk
  obtain ⟨k, rfl⟩ : ∃ j, k = j + 1 := ⟨k - 1, by omega⟩
  rw [draw_Below.l0, if_neg (by rw [h.length]; omega), List.drop_of_length_le (by omega)]
  rfl
 | succ n ih =>
  intro i k hi hk
  obtain ⟨k, rfl⟩ : ∃ j, k = j + 1 := ⟨k - 1, by omega⟩
  have hd : xs.drop i = xs.getD i 0 :: xs.drop (i + 1) := by
   rw [List.getD_eq_getElem?_getD, List.getElem?_eq_getElem (by omega), Option.getD_some, List.drop_eq_getElem_cons (by omega)]
  have hlen := h.length
  rw [draw_Below.l0]
  refine ift (by omega) (ift (by omega) (ift (by omega) (ift (by omega) ?_)))
  rw [h.rd, masked _ (h.lt i) m hm, hd, pick, wrap64_add1 i (by omega)]
  by_cases hc : xs.getD i 0 % 2 ^ m < d
  ·
   rw [if_pos (by omega), if_pos hc]
   have e : wrap64 ((at_ : Int) + ((i + 1 : Nat) : Int)) = ((at_ + (i + 1) : Nat) : Int) := by rw [← Int.natCast_add]; exact wrap64_nat _ (by omega)
   rw [e]
  ·
   rw [if_neg (by omega), if_neg hc]
   exact ih (i + 1) k (by omega) (by omega)
theorem below (d m : Nat) (hd0 : 0 < d) (hd : d < 18446744073709551616) (hm : Lib.bitLen (d - 1) = m) (hm64 : m ≤ 64) {l : List Int} {xs : List Nat} (h : Words l xs) (at_ : Nat) (hat : at_ ≤ xs.length) (hl : xs.length < 4611686018427387904) (k : Nat) (hk : xs.length < k) :
  draw_Below.f k l (at_ : Int) (d : Int) = some (if m = 0 then ((0 : Int), l, (at_ : Int), (0 : Int)) else match pick (2 ^ m) d (xs.drop at_) 0 with
   | some (x, j) => ((x : Int), l, ((at_ + j : Nat) : Int), 0)
   | none => (0, l, (at_ : Int), 8)) := by
 have hlen := h.length
 unfold draw_Below.f
 refine iff_ (by omega) ?_
 refine bnd (x := true) (by unfold draw_right.f; rw [if_pos (by omega), decide_eq_true (by omega)]) ?_
 refine ift rfl ?_
 have e1 : IntKind.u64.wrap ((d : Int) - 1) = ((d - 1 : Nat) : Int) := by rw [IntKind.wrap_u64]; omega
 refine bnd (x := (m : Int)) (by unfold bits_Len64.f; rw [e1, if_pos (by omega), Int.toNat_natCast, hm]) ?_
 by_cases h0 : m = 0
 ·
  subst h0; rw [if_pos rfl, if_pos (by rfl)]
 ·
  rw [if_neg (by omega), if_neg h0]
  refine ift (by omega) (ift (by omega) ?_)
  refine bnd rfl ?_
  rw [Int.toNat_natCast]
  have h2 := h.drop at_
  have := below_loop d m hm64 l at_ h2 (by rw [List.length_drop]; omega) (xs.drop at_).length 0 k (by omega) (by rw [List.length_drop]; omega)
  rw [List.drop_zero] at this
  exact this
theorem succ_of {k n : Nat} (h : n < k) : ∃ j, k = j + 1 ∧ n ≤ j := ⟨k - 1, by omega, by omega⟩
theorem pred64 (n : Nat) (h : n < 9223372036854775807) : wrap64 (((n + 1 : Nat) : Int) - 1) = (n : Int) := by unfold wrap64; omega
theorem inc64 (n : Nat) (h : n < 9223372036854775807) : wrap64 ((n : Int) + 1) = ((n + 1 : Nat) : Int) := by unfold wrap64; omega
theorem add64 (n m : Nat) (h : n + m < 9223372036854775808) : wrap64 ((n : Int) + (m : Int)) = ((n + m : Nat) : Int) := by unfold wrap64; omega
def cmp (a b : Nat) : Int := if a < b then -1 else if b < a then 1 else 0
theorem cmp_top {B : Nat} {a b x y n : Nat} (ha : a < B ^ n) (hb : b < B ^ n) : cmp (a + B ^ n * x) (b + B ^ n * y) = if x < y then -1 else if y < x then 1 else cmp a b := by
 rcases Nat.lt_trichotomy x y with h | h | h
 ·
  rw [if_pos h]
  have : B ^ n * (x + 1) ≤ B ^ n * y := Nat.mul_le_mul_left _ h
  rw [Nat.mul_add, Nat.mul_one] at this
  rw [cmp, if_pos (by omega)]
 ·
  subst h
  rw [if_neg (by omega), if_neg (by omega)]
  simp only [cmp, Nat.add_lt_add_iff_right]
 ·
  rw [if_neg (by omega), if_pos h]
  have : B ^ n * (y + 1) ≤ B ^ n * x := Nat.mul_le_mul_left _ h
  rw [Nat.mul_add, Nat.mul_one] at this
  rw [cmp, if_neg (by omega), if_pos (by omega)]
theorem drop_getD (xs : List Nat) (i : Nat) (h : i < xs.length) : xs.drop i = xs.getD i 0 :: xs.drop (i + 1) := by
 rw [List.getD_eq_getElem?_getD, List.getElem?_eq_getElem h, Option.getD_some, List.drop_eq_getElem_cons h]
def blen (n : Nat) : Nat := if n = 0 then 0 else n.log2 + 1
theorem blen_lt (n : Nat) : n < 2 ^ blen n := by
 unfold blen
 split
 ·
  subst n; decide
 ·
  rename_i h; exact (Nat.log2_lt h).1 (Nat.lt_succ_self _)
theorem blen_le (n m : Nat) (h : n < 2 ^ m) : blen n ≤ m := by
 unfold blen
 split
 ·
  omega
 ·
  rename_i h0; exact (Nat.log2_lt h0).2 h
theorem blen_eq (n m : Nat) (h : 2 ^ m ≤ n) (k : n < 2 ^ (m + 1)) : blen n = m + 1 := by
 have h0 : n ≠ 0 := by have := Nat.two_pow_pos m; omega
 unfold blen
 rw [if_neg h0]
 have h1 := (Nat.log2_lt h0).2 k
 have h2 := (Nat.le_log2 h0).2 h
 omega
theorem bitLen_blen (x : Nat) (h : x < 18446744073709551616) : Lib.bitLen x = blen x := by
 by_cases h0 : x = 0
 ·
  subst h0; rfl
 ·
  obtain ⟨h1, h2, h3⟩ := Lib.bitLenAux_bounds 64 x h h0
  have e : Lib.bitLen x = Lib.bitLenAux 64 x := rfl
  rw [e]
  generalize Lib.bitLenAux 64 x = m at h1 h2 h3
  obtain ⟨m, rfl⟩ : ∃ j, m = j + 1 := ⟨m - 1, by omega⟩
  exact (blen_eq x m h2 h3).symm
theorem limbs_top (n : Nat) (h : n ≠ 0) : ∃ (L t : Nat), (limbs n).length = L + 1 ∧ (limbs n).getD L 0 = t ∧ t ≠ 0 ∧ t < 4294967296 ∧ 4294967296 ^ L * t ≤ n ∧ n < 4294967296 ^ L * (t + 1) := by
 have h1 := limbs_ne_nil n h
 obtain ⟨L, hL⟩ : ∃ L, (limbs n).length = L + 1 := ⟨(limbs n).length - 1, by omega⟩
 have h2 := limbs_last n h
 rw [hL, show L + 1 - 1 = L by omega] at h2
 refine ⟨L, _, hL, rfl, h2, (limbs_dig n).getD (by decide) L, ?_⟩
 have h3 := val_take_succ (B := 4294967296) (limbs n) L (by omega)
 rw [← hL, List.take_length, val_limbs] at h3
 have h4 := val_lt ((limbs_dig n).take L)
 rw [List.length_take, Nat.min_eq_left (by omega)] at h4
 rw [Nat.mul_add, Nat.mul_one]
 omega
def attD (many : Nat) : List Nat → List Nat
 | [] => []
 | w :: ws => (w % 2 ^ min many 64 % 4294967296) :: (w % 2 ^ min many 64 / 4294967296) :: attD (many - min many 64) ws
theorem attD_val : ∀ (ws : List Nat) (many : Nat), (∀ x ∈ ws, x < 18446744073709551616) → many ≤ 64 * ws.length → val 4294967296 (attD many ws) = val 18446744073709551616 ws % 2 ^ many
 | [], many, _, h => by
  have : many = 0 := by simpa using h
  subst this; rw [attD, val, val, Nat.zero_mod]
 | w :: ws, many, h, hm => by
  have h1 := h w (List.mem_cons_self ..)
  rw [List.length_cons] at hm
  have ih := attD_val ws (many - min many 64) (fun x hx => h x (List.mem_cons_of_mem _ hx)) (by omega)
  rw [attD, val, val, ih, val]
  generalize val 18446744073709551616 ws = v
  by_cases hc : many ≤ 64
  ·
   rw [Nat.min_eq_left hc, show many - many = 0 by omega, Nat.pow_zero, Nat.mod_one]
   have e : (18446744073709551616 : Nat) = 2 ^ many * 2 ^ (64 - many) := by rw [← Nat.pow_add, show many + (64 - many) = 64 by omega]
   have e2 : (w + 18446744073709551616 * v) % 2 ^ many = w % 2 ^ many := by rw [e, Nat.mul_assoc, Nat.add_mul_mod_self_left]
   rw [e2]
   omega
  ·
   rw [Nat.min_eq_right (by omega)]
   obtain ⟨r, hr⟩ : ∃ r, many = 64 + r := ⟨many - 64, by omega⟩
   subst hr
   rw [show 64 + r - 64 = r by omega, Nat.pow_add, Nat.mod_mul, show (2 : Nat) ^ 64 = 18446744073709551616 by decide]
   have e1 : (w + 18446744073709551616 * v) % 18446744073709551616 = w := by omega
   have e2 : (w + 18446744073709551616 * v) / 18446744073709551616 = v := by omega
   rw [e1, e2]
   generalize v % 2 ^ r = z
   omega
def pickN (many n : Nat) (xs : List Nat) : Nat → Nat → Option (Nat × Nat)
 | 0, _ => none
 | f + 1, at_ => if xs.length - at_ < (many + 63) / 64 then none
  else if val 18446744073709551616 ((xs.drop at_).take ((many + 63) / 64)) % 2 ^ many < n then some (val 18446744073709551616 ((xs.drop at_).take ((many + 63) / 64)) % 2 ^ many, at_ + (many + 63) / 64)
  else pickN many n xs f (at_ + (many + 63) / 64)
def told (l l0 : List Int) (a0 : Int) : Option (Nat × Nat) → List Int × List Int × Int × Int
 | some (v, j) => (I (limbs v), l, (j : Int), 0)
 | none => ([], l0, a0, 8)
theorem small_limbs (v many : Nat) (h : v < 2 ^ many) (hm : many ≤ 2048) : (limbs v).length ≤ 64 := by
 refine (limbs_len v 64).2 (Nat.lt_of_lt_of_le h ?_)
 rw [show (4294967296 : Nat) = 2 ^ 32 by decide, ← Nat.pow_mul]
 exact Nat.pow_le_pow_right (by decide) hm
def pairs : List Nat → List Nat
 | [] => []
 | [h] => [h % 4294967296]
 | h :: h' :: t => (h + 65536 * h') % 4294967296 :: pairs t
theorem pairs_val : ∀ hs : List Nat, Dig 65536 hs → val 4294967296 (pairs hs) = val 65536 hs
 | [], _ => rfl
 | [h], hd => by have := hd.head; rw [pairs, val, val, val, val]; omega
 | h :: h' :: t, hd => by
  have h1 := hd.head; have h2 := hd.tail.head
  rw [pairs, val, val, val, pairs_val t hd.tail.tail]; omega
theorem pairs_len : ∀ hs : List Nat, (pairs hs).length ≤ hs.length
 | [] => Nat.le_refl _
 | [_] => Nat.le_refl _
 | _ :: _ :: t => by rw [pairs]; have := pairs_len t; simp; omega
theorem whole_l1 (xs : List Nat) (hd : Dig 4294967296 xs) (hl : xs.length < 9223372036854775807) (n : Nat) : ∀ k, n ≤ xs.length → n < k →
  samphireref02_Whole.l1 k (I (xs.take n)) = some (I (limbs (val 4294967296 (xs.take n)))) := by
 induction n with
 | zero =>
  intro k _ hk
  obtain ⟨k, rfl, hk⟩ := succ_of hk
  rw [samphireref02_Whole.l1, List.take_zero]
  refine iff_ (by simp [I]) ?_
  rw [val, limbs_zero]
 | succ n ih =>
  intro k hn hk
  obtain ⟨k, rfl, hk⟩ := succ_of hk
  have e : (I (xs.take (n + 1))).length = n + 1 := by rw [I_length, List.length_take, Nat.min_eq_left hn]
  have e2 : (xs.take (n + 1)).getD n 0 = xs.getD n 0 := by
   rw [List.getD_eq_getElem?_getD, List.getD_eq_getElem?_getD, List.getElem?_take_of_lt (by omega)]
  rw [samphireref02_Whole.l1, e]
  rw [pred64 n (by omega), rd_I, e2]
  refine ift (by omega) (ift (by omega) (ift (by omega) ?_))
  have hv := val_take_succ (B := 4294967296) xs n (by omega)
  by_cases h0 : xs.getD n 0 = 0
  ·
   rw [if_pos (by omega), if_pos (by omega), hv, h0, Nat.mul_zero, Nat.add_zero, Int.toNat_natCast, I_take, List.take_take, Nat.min_eq_left (by omega)]
   exact ih k (by omega) (by omega)
  ·
   rw [if_neg (by omega), take_succ_getD xs n (by omega), limbs_snoc _ _ (hd.take n) (hd.getD (by decide) n) h0]
theorem two64 (i : Nat) (h : i < 9223372036854775800) : wrap64 ((i : Int) + 2) = ((i + 2 : Nat) : Int) := by unfold wrap64; omega
theorem whole_l0 (hs : List Nat) (hd : Dig 65536 hs) (hl : hs.length < 1152921504606) (K : Nat) (hK : hs.length < K) (m : Nat) : ∀ (k i : Nat) (ds : List Nat), hs.length ≤ i + 2 * m → i ≤ hs.length + 1 → m + K < k → Dig 4294967296 ds → ds.length + (pairs (hs.drop i)).length ≤ hs.length →
  samphireref02_Whole.l0 k (I hs) (I ds) (i : Int) = some (I (limbs (val 4294967296 (ds ++ pairs (hs.drop i))))) := by
 induction m with
 | zero =>
  intro k i ds h1 h2 hk hD hLn
  obtain ⟨k, rfl, hk⟩ := succ_of hk
  rw [samphireref02_Whole.l0, I_length]
  refine iff_ (by omega) ?_
  rw [List.drop_of_length_le (by omega), pairs, List.append_nil]
  have := whole_l1 ds hD (by omega) ds.length k (Nat.le_refl _) (by omega)
  rw [List.take_length] at this
  exact this
 | succ m ih =>
  intro k i ds h1 h2 hk hD hLn
  obtain ⟨k, rfl, hk⟩ := succ_of hk
  by_cases hi : i < hs.length
  ·
   have e1 := hd.getD (by decide) i
   have e2 := hd.getD (by decide) (i + 1)
   rw [samphireref02_Whole.l0, I_length]
   refine ift (by omega) (ift (by omega) ?_)
   rw [inc64 i (by omega), two64 i (by omega), rd_I, rd_I, I_length]
   rw [drop_getD hs i hi] at hLn ⊢
   by_cases hj : i + 1 < hs.length
   ·
    rw [drop_getD hs (i + 1) hj, show i + 1 + 1 = i + 2 from rfl] at hLn ⊢
    rw [pairs, List.length_cons] at hLn
    refine ift (by omega) (ift (by omega) (ift (by omega) ?_))
    have e3 : IntKind.u64.wrap (((hs.getD i 0 : Nat) : Int) + IntKind.u64.wrap (65536 * ((hs.getD (i + 1) 0 : Nat) : Int))) % 4294967296 = (((hs.getD i 0 + 65536 * hs.getD (i + 1) 0) % 4294967296 : Nat) : Int) := by
     simp only [IntKind.wrap_u64]; omega
    rw [e3, I_snoc, ih k (i + 2) _ (by omega) (by omega) (by omega) (hD.append (Dig.cons (Nat.mod_lt _ (by decide)) (Dig.nil _))) (by rw [List.length_append, List.length_singleton]; omega)]
    rw [pairs, List.append_assoc]; rfl
   ·
    rw [List.drop_of_length_le (by omega : hs.length ≤ i + 1)] at hLn ⊢
    rw [pairs, List.length_singleton] at hLn
    refine iff_ (by omega) (ift (by omega) ?_)
    have e3 : ((hs.getD i 0 : Nat) : Int) % 4294967296 = ((hs.getD i 0 % 4294967296 : Nat) : Int) := by omega
    rw [e3, I_snoc, ih k (i + 2) _ (by omega) (by omega) (by omega) (hD.append (Dig.cons (Nat.mod_lt _ (by decide)) (Dig.nil _))) (by rw [List.drop_of_length_le (by omega), pairs, List.length_append, List.length_singleton, List.length_nil]; omega)]
    rw [List.drop_of_length_le (by omega : hs.length ≤ i + 2), pairs, pairs, List.append_nil]
  ·
   rw [samphireref02_Whole.l0, I_length]
   refine iff_ (by omega) ?_
   rw [List.drop_of_length_le (by omega), pairs, List.append_nil]
   rw [List.drop_of_length_le (by omega), pairs] at hLn
   have := whole_l1 ds hD (by omega) ds.length k (Nat.le_refl _) (by simp at hLn; omega)
   rw [List.take_length] at this
   exact this
theorem whole (hs : List Nat) (hd : Dig 65536 hs) (hl : hs.length < 1152921504606) (k : Nat) (hk : 2 * hs.length + 2 < k) : samphireref02_Whole.f k (I hs) = some (I (limbs (val 65536 hs))) := by
 unfold samphireref02_Whole.f
 have := whole_l0 hs hd hl (hs.length + 1) (by omega) hs.length k 0 [] (by omega) (by omega) (by omega) (Dig.nil _) (by have := pairs_len hs; simp; omega)
 rw [List.drop_zero, List.nil_append, pairs_val hs hd] at this
 exact this
theorem refOf (n : Nat) (h : n < 18446744073709551616) (k : Nat) (hk : 10 < k) : samphireref02_Of.f k (n : Int) = some (I (limbs n)) := by
 unfold samphireref02_Of.f
 have e : ([Int.tmod (n : Int) 65536, Int.tmod (IntKind.u64.wrap (Int.tdiv (n : Int) 65536)) 65536, Int.tmod (IntKind.u64.wrap (Int.tdiv (n : Int) 4294967296)) 65536, IntKind.u64.wrap (Int.tdiv (n : Int) 281474976710656)] : List Int) = I [n % 65536, n / 65536 % 65536, n / 4294967296 % 65536, n / 281474976710656] := by
  simp only [IntKind.wrap_u64, Int.tdiv_eq_ediv_of_nonneg (Int.natCast_nonneg n)]
  rw [Int.tmod_eq_emod_of_nonneg (by omega), Int.tmod_eq_emod_of_nonneg (by omega), Int.tmod_eq_emod_of_nonneg (by omega)]
  simp only [I, List.map_cons, List.map_nil]
  rw [show ((n : Int) / 65536) % 18446744073709551616 = (n : Int) / 65536 by omega, show ((n : Int) / 4294967296) % 18446744073709551616 = (n : Int) / 4294967296 by omega, show ((n : Int) / 281474976710656) % 18446744073709551616 = (n : Int) / 281474976710656 by omega]
  rfl
 rw [e]
 have hd : Dig 65536 [n % 65536, n / 65536 % 65536, n / 4294967296 % 65536, n / 281474976710656] := Dig.cons (Nat.mod_lt _ (by decide)) (Dig.cons (Nat.mod_lt _ (by decide)) (Dig.cons (Nat.mod_lt _ (by decide)) (Dig.cons (by omega) (Dig.nil _))))
 refine bnd (whole _ hd (show 4 < 1152921504606 by omega) k (show 2 * 4 + 2 < k by omega)) ?_
 rw [val, val, val, val, val, show n % 65536 + 65536 * (n / 65536 % 65536 + 65536 * (n / 4294967296 % 65536 + 65536 * (n / 281474976710656 + 65536 * 0))) = n by omega]
def hf (xs : List Nat) (i : Nat) : Nat := if i % 2 = 0 then xs.getD (i / 2) 0 % 65536 else xs.getD (i / 2) 0 / 65536
def halves (xs : List Nat) (n : Nat) : List Nat := (List.range n).map (hf xs)
theorem halves_len (xs : List Nat) (n : Nat) : (halves xs n).length = n := by simp [halves]
theorem halves_succ (xs : List Nat) (n : Nat) : halves xs (n + 1) = halves xs n ++ [hf xs n] := by simp [halves, List.range_succ]
theorem hf_lt (xs : List Nat) (hd : Dig 4294967296 xs) (i : Nat) : hf xs i < 65536 := by
 have := hd.getD (by decide) (i / 2)
 unfold hf; split <;> omega
theorem halves_dig (xs : List Nat) (hd : Dig 4294967296 xs) (n : Nat) : Dig 65536 (halves xs n) := by
 intro x hx
 simp only [halves, List.mem_map] at hx
 obtain ⟨i, _, rfl⟩ := hx
 exact hf_lt xs hd i
theorem halves_val2 (xs : List Nat) (hd : Dig 4294967296 xs) : ∀ n, val 65536 (halves xs (2 * n)) = val 4294967296 (xs.take n) := by
 intro n
 induction n with
 | zero => rfl
 | succ n ih =>
  rw [show 2 * (n + 1) = 2 * n + 1 + 1 by omega, halves_succ, halves_succ, val_append, val_append, ih, List.length_append, halves_len]
  have h1 : hf xs (2 * n) = xs.getD n 0 % 65536 := by unfold hf; rw [if_pos (by omega), show 2 * n / 2 = n by omega]
  have h2 : hf xs (2 * n + 1) = xs.getD n 0 / 65536 := by unfold hf; rw [if_neg (by omega), show (2 * n + 1) / 2 = n by omega]
  rw [h1, h2]
  have e1 : ∀ d, val 65536 [d] = d := fun d => by simp [val]
  rw [e1, e1]
  have ep : (65536 : Nat) ^ (2 * n) = 4294967296 ^ n := by rw [Nat.pow_mul]
  by_cases hn : n < xs.length
  ·
   rw [val_take_succ xs n hn, List.length_singleton, Nat.pow_succ, ep]
   generalize xs.getD n 0 = d
   generalize (4294967296 : Nat) ^ n = P
   rw [Nat.add_assoc, Nat.mul_assoc, ← Nat.mul_add, show d % 65536 + 65536 * (d / 65536) = d by omega]
  ·
   have h0 : xs.getD n 0 = 0 := by rw [List.getD_eq_getElem?_getD, List.getElem?_eq_none (by omega)]; rfl
   rw [h0, List.take_of_length_le (show xs.length ≤ n + 1 by omega), List.take_of_length_le (by omega)]
   simp
theorem halves_val (xs : List Nat) (hd : Dig 4294967296 xs) (n : Nat) (h : xs.length ≤ n) : val 65536 (halves xs (2 * n)) = val 4294967296 xs := by
 rw [halves_val2 xs hd n, List.take_of_length_le h]
theorem half_loop (xs : List Nat) (hd : Dig 4294967296 xs) (n : Nat) (hn : n < 1000000) (m : Nat) : ∀ (k i : Nat), i + m = n → m < k → samphireref02_Half.l0 k (I xs) (n : Int) (I (halves xs i)) (i : Int) = some (I (halves xs n)) := by
 induction m with
 | zero =>
  intro k i hi hk
  obtain ⟨k, rfl, hk⟩ := succ_of hk
  rw [samphireref02_Half.l0, if_neg (by omega), show i = n by omega]
 | succ m ih =>
  intro k i hi hk
  obtain ⟨k, rfl, hk⟩ := succ_of hk
  have e1 : wrap64 (Int.tdiv (i : Int) 2) = ((i / 2 : Nat) : Int) := by rw [Int.tdiv_eq_ediv_of_nonneg (by omega)]; unfold wrap64; omega
  have e2 : Int.tmod (i : Int) 2 = ((i % 2 : Nat) : Int) := by rw [Int.tmod_eq_emod_of_nonneg (by omega)]; omega
  have hg := hd.getD (by decide) (i / 2)
  have h0 : ¬ i / 2 < xs.length → xs.getD (i / 2) 0 = 0 := fun h => by rw [List.getD_eq_getElem?_getD, List.getElem?_eq_none (by omega)]; rfl
  have hnext := ih k (i + 1) (by omega) (by omega)
  rw [halves_succ, ← I_snoc] at hnext
  have hL : (I (halves xs i)).length = i := by rw [I_length, halves_len]
  rw [samphireref02_Half.l0, if_pos (by omega), e1, e2, rd_I, hL, inc64 i (by omega)]
  have hw : IntKind.u64.wrap ((xs.getD (i / 2) 0 : Nat) : Int) = ((xs.getD (i / 2) 0 : Nat) : Int) := by rw [IntKind.wrap_u64]; omega
  have hf0 : i % 2 = 0 → hf xs i = xs.getD (i / 2) 0 % 65536 := fun h => if_pos h
  have hf1 : ¬ i % 2 = 0 → hf xs i = xs.getD (i / 2) 0 / 65536 := fun h => if_neg h
  rw [hw, I_length]
  generalize xs.getD (i / 2) 0 = d at *
  have t1 : Int.tmod (d : Int) 65536 = ((d % 65536 : Nat) : Int) := by rw [Int.tmod_eq_emod_of_nonneg (by omega)]; omega
  have t2 : IntKind.u64.wrap (Int.tdiv (d : Int) 65536) = ((d / 65536 : Nat) : Int) := by rw [Int.tdiv_eq_ediv_of_nonneg (by omega), IntKind.wrap_u64]; omega
  rw [t1, t2]
  by_cases hlt : i / 2 < xs.length
  ·
   rw [if_pos (by omega), if_pos (by omega)]
   by_cases hp : i % 2 = 0
   ·
    rw [if_pos (by omega), if_pos (by omega), ← hf0 hp]; exact hnext
   ·
    rw [if_neg (by omega), if_pos (by omega), ← hf1 hp]; exact hnext
  ·
   have hz := h0 hlt
   rw [if_neg (by omega)]
   by_cases hp : i % 2 = 0
   ·
    rw [hf0 hp, hz] at hnext
    rw [if_pos (by omega), if_pos (by omega)]; exact hnext
   ·
    rw [hf1 hp, hz] at hnext
    rw [if_neg (by omega), if_pos (by omega)]; exact hnext
theorem half (xs : List Nat) (hd : Dig 4294967296 xs) (n : Nat) (hn : n < 1000000) (k : Nat) (hk : n < k) : samphireref02_Half.f k (I xs) (n : Int) = some (I (halves xs n)) := by
 have := half_loop xs hd n hn n k 0 (by omega) hk
 exact this
theorem val_set (B : Nat) : ∀ (xs : List Nat) (i d : Nat), i < xs.length → val B (xs.set i d) + B ^ i * xs.getD i 0 = val B xs + B ^ i * d := by
 intro xs
 induction xs with
 | nil => intro i d h; cases h
 | cons x xs ih =>
  intro i d h
  cases i with
  | zero => simp [val]; omega
  | succ i =>
   have h2 := ih i d (by simpa using h)
   simp only [List.set_cons_succ, List.getD_cons_succ, val, Nat.pow_succ]
   have e : B ^ i * B * xs.getD i 0 = B * (B ^ i * xs.getD i 0) := by rw [Nat.mul_comm (B ^ i) B, Nat.mul_assoc]
   have e2 : B ^ i * B * d = B * (B ^ i * d) := by rw [Nat.mul_comm (B ^ i) B, Nat.mul_assoc]
   rw [e, e2, Nat.add_assoc, ← Nat.mul_add, h2, Nat.mul_add]; omega
theorem dig_set {B : Nat} {xs : List Nat} (h : Dig B xs) (i d : Nat) (hd : d < B) : Dig B (xs.set i d) := fun x hx => by
 rcases List.mem_or_eq_of_mem_set hx with h2 | h2
 ·
  exact h x h2
 ·
  rw [h2]; exact hd
theorem drop_val (ys : List Nat) (i : Nat) (h : i < ys.length) : val 65536 (ys.drop i) = ys.getD i 0 + 65536 * val 65536 (ys.drop (i + 1)) := by
 rw [List.drop_eq_getElem_cons h]
 have : ys.getD i 0 = ys[i] := by rw [List.getD_eq_getElem?_getD, List.getElem?_eq_getElem h]; rfl
 rw [this]; rfl
theorem sub_loop (ys : List Nat) (hy : Dig 65536 ys) (n : Nat) (hn : n < 1000000) (hyl : ys.length = n) (T K : Nat) (hK : 2 * n + 2 < K) (m : Nat) : ∀ (k i owed : Nat) (xs : List Nat), Dig 65536 xs → xs.length = n → owed ≤ 1 → i + m = n → K + m < k →
  val 65536 xs = T + 65536 ^ i * owed + 65536 ^ i * val 65536 (ys.drop i) →
  samphireref02_Sub.l0 k (n : Int) (I xs) (I ys) (owed : Int) (i : Int) = some (I (limbs T)) := by
 induction m with
 | zero =>
  intro k i owed xs hx hxl ho hi hk hT
  obtain ⟨k, rfl, hk⟩ := succ_of hk
  obtain rfl : i = n := by omega
  have hd : ys.drop i = [] := List.drop_eq_nil_of_le (by omega)
  have hlt := val_lt hx
  rw [hxl] at hlt
  rw [hd] at hT
  have h0 : owed = 0 := by
   rcases Nat.eq_zero_or_pos owed with h | h
   ·
    exact h
   ·
    obtain rfl : owed = 1 := by omega
    omega
  subst h0
  rw [samphireref02_Sub.l0, if_neg (by omega), whole xs hx (by omega) k (by omega), Option.bind_some, hT]
  simp [val]
 | succ m ih =>
  intro k i owed xs hx hxl ho hi hk hT
  obtain ⟨k, rfl, hk⟩ := succ_of hk
  have hxi := hx.getD (by decide) i
  have hyi := hy.getD (by decide) i
  have hset := fun d => val_set 65536 xs i d (by omega)
  have hdr := drop_val ys i (by omega)
  rw [samphireref02_Sub.l0, if_pos (by omega), if_pos (by omega), if_pos (by rw [I_length]; omega), if_pos (by rw [I_length]; omega), rd_I, rd_I, inc64 i (by omega)]
  generalize xs.getD i 0 = x at *
  generalize ys.getD i 0 = y at *
  obtain ⟨s, hs⟩ : ∃ s, s = 65536 + x - y - owed := ⟨_, rfl⟩
  have e1 : IntKind.u64.wrap (IntKind.u64.wrap (IntKind.u64.wrap (65536 + (x : Int)) - (y : Int)) - (owed : Int)) = (s : Int) := by
   rw [IntKind.wrap_u64, IntKind.wrap_u64, IntKind.wrap_u64]; omega
  have e2 : Int.tmod (s : Int) 65536 = ((s % 65536 : Nat) : Int) := by rw [Int.tmod_eq_emod_of_nonneg (by omega)]; omega
  have e3 : IntKind.u64.wrap (1 - IntKind.u64.wrap (Int.tdiv (s : Int) 65536)) = ((1 - s / 65536 : Nat) : Int) := by
   rw [Int.tdiv_eq_ediv_of_nonneg (by omega), IntKind.wrap_u64, IntKind.wrap_u64]; omega
  rw [e1, e2, e3, Int.toNat_natCast, I_set]
  have h1 := hset (s % 65536)
  have hw : s % 65536 + y + owed = x + 65536 * (1 - s / 65536) := by omega
  have h3 := ih k (i + 1) (1 - s / 65536) (xs.set i (s % 65536)) (dig_set hx i _ (Nat.mod_lt _ (by decide))) (by rw [List.length_set]; exact hxl) (by omega) (by omega) (by omega) (by
   rw [hdr, Nat.mul_add] at hT
   have h2 : 65536 ^ i * (s % 65536 + y + owed) = 65536 ^ i * (x + 65536 * (1 - s / 65536)) := by rw [hw]
   rw [Nat.mul_add, Nat.mul_add, Nat.mul_add] at h2
   rw [Nat.pow_succ, Nat.mul_assoc, Nat.mul_assoc]
   omega)
  exact h3
theorem sub_one (n : Nat) (h0 : 0 < n) (hl : (limbs n).length ≤ 64) (k : Nat) (hk : 600 < k) : samphireref02_Sub.f k (I (limbs n)) [1] = some (I (limbs (n - 1))) := by
 obtain ⟨m, hm⟩ : ∃ m, m = (limbs n).length := ⟨_, rfl⟩
 have hm0 : 0 < m := by have := limbs_ne_nil n (by omega); omega
 have e1 : wrap64 (2 * ((I (limbs n)).length : Int)) = ((2 * m : Nat) : Int) := by rw [I_length]; unfold wrap64; omega
 have h1d : Dig 4294967296 [1] := by
  intro x hx
  simp at hx
  omega
 have va := halves_val (limbs n) (limbs_dig n) m (by omega)
 have vb := halves_val [1] h1d m (show [1].length ≤ m from hm0)
 rw [val_limbs] at va
 unfold samphireref02_Sub.f
 rw [e1, half _ (limbs_dig n) _ (by omega) k (by omega), Option.bind_some]
 have hh := half [1] h1d (2 * m) (by omega) k (by omega)
 have hh' : samphireref02_Half.f k [1] ((2 * m : Nat) : Int) = some (I (halves [1] (2 * m))) := hh
 rw [hh', Option.bind_some]
 exact sub_loop (halves [1] (2 * m)) (halves_dig _ h1d _) (2 * m) (by omega) (halves_len _ _) (n - 1) 300 (by omega) (2 * m) k 0 0 (halves (limbs n) (2 * m)) (halves_dig _ (limbs_dig n) _) (halves_len _ _) (by omega) (by omega) (by omega)
  (by rw [List.drop_zero, va, vb]; simp [val]; omega)
theorem rorder_loop (xs ys : List Nat) (hx : Dig 4294967296 xs) (hy : Dig 4294967296 ys) (hl : xs.length = ys.length) (hm : xs.length < 9223372036854775807) (n : Nat) : ∀ k, n ≤ xs.length → n < k →
  samphireref02_Cmp.l0 k (I xs) (I ys) ((n : Int) - 1) = some (cmp (val 4294967296 (xs.take n)) (val 4294967296 (ys.take n))) := by
 induction n with
 | zero =>
  intro k _ hk
  obtain ⟨k, rfl, hk⟩ := succ_of hk
  rw [samphireref02_Cmp.l0]
  exact iff_ (by omega) rfl
 | succ n ih =>
  intro k hn hk
  obtain ⟨k, rfl, hk⟩ := succ_of hk
  rw [samphireref02_Cmp.l0, show ((n + 1 : Nat) : Int) - 1 = (n : Int) by omega, I_length, I_length, rd_I, rd_I]
  refine ift (by omega) (ift (by omega) (ift (by omega) (ift (by omega) ?_)))
  rw [val_take_succ xs n (by omega), val_take_succ ys n (by omega)]
  have e1 : val 4294967296 (xs.take n) < 4294967296 ^ n := by have := val_lt (hx.take n); rwa [List.length_take, Nat.min_eq_left (by omega)] at this
  have e2 : val 4294967296 (ys.take n) < 4294967296 ^ n := by have := val_lt (hy.take n); rwa [List.length_take, Nat.min_eq_left (by omega)] at this
  rw [cmp_top e1 e2]
  by_cases h0 : xs.getD n 0 = ys.getD n 0
  ·
   rw [if_pos (by omega), if_neg (by omega), if_neg (by omega), show wrap64 ((n : Int) - 1) = (n : Int) - 1 by unfold wrap64; omega]
   exact ih k (by omega) (by omega)
  ·
   rw [if_neg (by omega)]
   by_cases h1 : xs.getD n 0 < ys.getD n 0
   ·
    rw [if_pos (by omega), if_pos h1]
   ·
    rw [if_neg (by omega), if_neg h1, if_pos (by omega)]
theorem rcmp (a b : Nat) (ha : (limbs a).length < 1000000) (hb : (limbs b).length < 1000000) (k : Nat) (hk : (limbs a).length < k) : samphireref02_Cmp.f k (I (limbs a)) (I (limbs b)) = some (cmp a b) := by
 unfold samphireref02_Cmp.f
 rw [I_length, I_length]
 by_cases h : (limbs a).length = (limbs b).length
 ·
  rw [if_pos (by omega), show wrap64 (((limbs a).length : Int) - 1) = ((limbs a).length : Int) - 1 by unfold wrap64; omega]
  rw [rorder_loop _ _ (limbs_dig a) (limbs_dig b) h (by omega) _ k (Nat.le_refl _) hk, List.take_length, h, List.take_length, val_limbs, val_limbs]
 ·
  rw [if_neg (by omega)]
  rcases Nat.lt_or_gt_of_ne h with h1 | h1
  ·
   have h2 := (limbs_len a (limbs a).length).1 (Nat.le_refl _)
   have h3 : ¬ b < 4294967296 ^ (limbs a).length := fun h4 => by have := (limbs_len b _).2 h4; omega
   rw [if_pos (by omega), cmp, if_pos (by omega)]
  ·
   have h2 := (limbs_len b (limbs b).length).1 (Nat.le_refl _)
   have h3 : ¬ a < 4294967296 ^ (limbs b).length := fun h4 => by have := (limbs_len a _).2 h4; omega
   rw [if_neg (by omega), cmp, if_neg (by omega), if_pos (by omega)]
theorem rnumber_loop (xs : List Nat) (hx : Dig 4294967296 xs) (hl : xs.length ≤ 2) (n : Nat) : ∀ (k : Nat) (acc : Nat), n ≤ xs.length → n < k → acc * 4294967296 ^ n + val 4294967296 (xs.take n) < 18446744073709551616 →
  samphireref07_Number.l0 k (I xs) (acc : Int) ((n : Int) - 1) = some ((acc * 4294967296 ^ n + val 4294967296 (xs.take n) : Nat) : Int) := by
 induction n with
 | zero =>
  intro k acc _ hk h
  obtain ⟨k, rfl, hk⟩ := succ_of hk
  rw [samphireref07_Number.l0, if_neg (by omega)]
  simp [val]
 | succ n ih =>
  intro k acc hn hk h
  obtain ⟨k, rfl, hk⟩ := succ_of hk
  have hd := hx.getD (by decide) n
  rw [val_take_succ xs n (by omega)] at h ⊢
  have e : acc * 4294967296 ^ (n + 1) + (val 4294967296 (xs.take n) + 4294967296 ^ n * xs.getD n 0) = (4294967296 * acc + xs.getD n 0) * 4294967296 ^ n + val 4294967296 (xs.take n) := by
   rw [Nat.pow_succ, Nat.add_mul, Nat.mul_comm (4294967296 ^ n) 4294967296, ← Nat.mul_assoc, Nat.mul_comm acc 4294967296, Nat.mul_comm (xs.getD n 0)]; omega
  rw [e] at h ⊢
  have hacc : 4294967296 * acc + xs.getD n 0 < 18446744073709551616 := by
   have : (4294967296 * acc + xs.getD n 0) * 1 ≤ (4294967296 * acc + xs.getD n 0) * 4294967296 ^ n := Nat.mul_le_mul_left _ (Nat.pow_pos (by decide))
   omega
  rw [samphireref07_Number.l0, show ((n + 1 : Nat) : Int) - 1 = (n : Int) by omega, if_pos (by omega), if_pos (by omega), if_pos (by rw [I_length]; omega), rd_I]
  have ew : IntKind.u64.wrap (IntKind.u64.wrap (4294967296 * (acc : Int)) + IntKind.u64.wrap ((xs.getD n 0 : Nat) : Int)) = ((4294967296 * acc + xs.getD n 0 : Nat) : Int) := by
   rw [IntKind.wrap_u64, IntKind.wrap_u64, IntKind.wrap_u64]; omega
  rw [ew, show wrap64 ((n : Int) - 1) = (n : Int) - 1 by unfold wrap64; omega]
  exact ih k _ (by omega) (by omega) h
theorem rnumber (v : Nat) (h : v < 18446744073709551616) (k : Nat) (hk : 5 < k) : samphireref07_Number.f k (I (limbs v)) = some (v : Int) := by
 have hl : (limbs v).length ≤ 2 := (limbs_len v 2).2 (Nat.lt_of_lt_of_le h (by decide))
 unfold samphireref07_Number.f
 rw [I_length, show wrap64 (((limbs v).length : Int) - 1) = ((limbs v).length : Int) - 1 by unfold wrap64; omega]
 have := rnumber_loop (limbs v) (limbs_dig v) hl (limbs v).length k 0 (Nat.le_refl _) (by omega) (by rw [List.take_length, val_limbs]; omega)
 rw [List.take_length, val_limbs] at this
 simpa using this
def accF (a i d j : Nat) : Nat := if d % 2 ^ j = 0 then a else 32 * i + blen (d % 2 ^ j)
theorem mod_succ2 (d j : Nat) : d % 2 ^ (j + 1) = d % 2 ^ j + 2 ^ j * (d / 2 ^ j % 2) := by
 rw [Nat.pow_succ, Nat.mod_mul]
theorem rbits_inner (xs : List Nat) (hd : Dig 4294967296 xs) (i : Nat) (hi : i < xs.length) (hl : xs.length ≤ 64) (a : Nat) (ha : a ≤ 4096) : ∀ (m j K : Nat), j + m = 32 →
  samphireref02_Bits.l1 (K + m + 1) (I xs) ((accF a i (xs.getD i 0) j : Nat) : Int) (i : Int) (j : Int) = samphireref02_Bits.l0 K (I xs) ((accF a i (xs.getD i 0) 32 : Nat) : Int) ((i + 1 : Nat) : Int) := by
 intro m
 induction m with
 | zero =>
  intro j K hj
  obtain rfl : j = 32 := by omega
  rw [samphireref02_Bits.l1, if_neg (by decide), inc64 i (by omega)]
 | succ m ih =>
  intro j K hj
  have hg := hd.getD (by decide) i
  have hnext := ih (j + 1) K (by omega)
  have c1 : (j : Int) < 32 := by omega
  have c2 : (i : Int) < ((I xs).length : Int) := by rw [I_length]; omega
  have ej : IntKind.u64.wrap (j : Int) = (j : Int) := by rw [IntKind.wrap_u64]; omega
  rw [show K + (m + 1) + 1 = (K + m + 1) + 1 by omega, samphireref02_Bits.l1, if_pos c1, if_pos (Int.natCast_nonneg _), if_pos c2, ej, if_pos (Int.natCast_nonneg _), rd_I, inc64 j (by omega)]
  generalize xs.getD i 0 = d at *
  have es : Int.tmod (shr .u32 (d : Int) (j : Int)) 2 = ((d / 2 ^ j % 2 : Nat) : Int) := by
   have : shr .u32 (d : Int) (j : Int) = ((d / 2 ^ j : Nat) : Int) := by
    unfold shr
    rw [Int.toNat_natCast, Nat.min_eq_left (show j ≤ IntKind.u32.bits from by show j ≤ 32; omega)]
    simp
   rw [this, Int.tmod_eq_emod_of_nonneg (Int.natCast_nonneg _)]
   generalize d / 2 ^ j = z
   omega
  rw [es]
  have hm := mod_succ2 d j
  have hlow : d % 2 ^ j < 2 ^ j := Nat.mod_lt _ (Nat.two_pow_pos j)
  by_cases hb : d / 2 ^ j % 2 = 1
  ·
   rw [hb, Nat.mul_one] at hm
   have hbl : blen (d % 2 ^ (j + 1)) = j + 1 := blen_eq _ j (by omega) (Nat.mod_lt _ (Nat.two_pow_pos _))
   have hacc : accF a i d (j + 1) = 32 * i + (j + 1) := by
    have hp := Nat.two_pow_pos j
    unfold accF
    rw [if_neg (by omega), hbl]
   rw [hacc] at hnext
   rw [if_pos (by omega)]
   have ew : wrap64 (wrap64 (wrap64 (32 * (i : Int)) + (j : Int)) + 1) = ((32 * i + (j + 1) : Nat) : Int) := by
    rw [show 32 * (i : Int) = ((32 * i : Nat) : Int) by omega, wrap64_nat _ (by omega), add64 _ _ (by omega), inc64 _ (by omega)]
    rfl
   rw [ew]
   exact hnext
  ·
   have h0 : d / 2 ^ j % 2 = 0 := by omega
   have hm2 : d % 2 ^ (j + 1) = d % 2 ^ j := by rw [mod_succ2, h0]; rfl
   have hacc : accF a i d (j + 1) = accF a i d j := by unfold accF; rw [hm2]
   rw [hacc] at hnext
   rw [if_neg (by omega)]
   exact hnext
theorem blen_limbs (n : Nat) (L t : Nat) (h3 : t ≠ 0) (h5 : 4294967296 ^ L * t ≤ n) (h6 : n < 4294967296 ^ L * (t + 1)) : blen n = 32 * L + blen t := by
 have ht : blen t ≠ 0 := by unfold blen; rw [if_neg h3]; omega
 obtain ⟨b, hb⟩ : ∃ b, blen t = b + 1 := ⟨blen t - 1, by omega⟩
 have k1 : t < 2 ^ (b + 1) := hb ▸ blen_lt t
 have k2 : 2 ^ b ≤ t := by
  rcases Nat.lt_or_ge t (2 ^ b) with hlt | hge
  ·
   have := blen_le t b hlt; omega
  ·
   exact hge
 have e1 : (4294967296 : Nat) ^ L = 2 ^ (32 * L) := by rw [Nat.pow_mul]
 rw [e1] at h5 h6
 rw [hb, ← Nat.add_assoc]
 refine blen_eq n _ ?_ ?_
 ·
  rw [Nat.pow_add]; exact Nat.le_trans (Nat.mul_le_mul_left _ k2) h5
 ·
  rw [Nat.add_assoc, Nat.pow_add]; exact Nat.lt_of_lt_of_le h6 (Nat.mul_le_mul_left _ k1)
theorem rbits_outer (xs : List Nat) (hd : Dig 4294967296 xs) (hl : xs.length ≤ 64) (L t : Nat) (hL : xs.length = L + 1) (ht : xs.getD L 0 = t) (h0 : t ≠ 0) : ∀ (m i a K : Nat), i + m = L → a ≤ 4096 →
  samphireref02_Bits.l0 (K + 34 * m + 35) (I xs) (a : Int) (i : Int) = some ((32 * L + blen t : Nat) : Int) := by
 have ht32 : t < 4294967296 := ht ▸ hd.getD (by decide) L
 intro m
 induction m with
 | zero =>
  intro i a K hi ha
  obtain rfl : i = L := by omega
  have h := rbits_inner xs hd i (by omega) hl a ha 32 0 (K + 1) (by omega)
  have hs : accF a i (xs.getD i 0) 0 = a := by unfold accF; rw [Nat.pow_zero, Nat.mod_one, if_pos rfl]
  have he : accF a i (xs.getD i 0) 32 = 32 * i + blen t := by
   unfold accF
   rw [ht, show t % 2 ^ 32 = t from Nat.mod_eq_of_lt ht32, if_neg h0]
  rw [hs, he, samphireref02_Bits.l0, if_neg (by rw [I_length]; omega)] at h
  rw [show K + 34 * 0 + 35 = (K + 1 + 32 + 1) + 1 by omega, samphireref02_Bits.l0, if_pos (by rw [I_length]; omega)]
  exact h
 | succ m ih =>
  intro i a K hi ha
  have h := rbits_inner xs hd i (by omega) hl a ha 32 0 (K + 34 * m + 35) (by omega)
  have hs : accF a i (xs.getD i 0) 0 = a := by unfold accF; rw [Nat.pow_zero, Nat.mod_one, if_pos rfl]
  have hdi := hd.getD (by decide) i
  have hle : accF a i (xs.getD i 0) 32 ≤ 4096 := by
   unfold accF
   split
   ·
    exact ha
   ·
    have := blen_le (xs.getD i 0 % 2 ^ 32) 32 (Nat.mod_lt _ (by decide)); omega
  rw [hs, ih (i + 1) _ K (by omega) hle] at h
  rw [show K + 34 * (m + 1) + 35 = (K + 34 * m + 35 + 32 + 1) + 1 by omega, samphireref02_Bits.l0, if_pos (by rw [I_length]; omega)]
  exact h
theorem rbits (n : Nat) (hl : (limbs n).length ≤ 64) (k : Nat) (hk : 2300 < k) : samphireref02_Bits.f k (I (limbs n)) = some ((blen n : Nat) : Int) := by
 unfold samphireref02_Bits.f
 by_cases h : n = 0
 ·
  subst h
  obtain ⟨k, rfl, _⟩ := succ_of (show 0 < k by omega)
  rw [limbs_zero, samphireref02_Bits.l0, if_neg (by decide)]; rfl
 ·
  obtain ⟨L, t, h1, h2, h3, h4, h5, h6⟩ := limbs_top n h
  rw [blen_limbs n L t h3 h5 h6]
  have := rbits_outer (limbs n) (limbs_dig n) hl L t h1 h2 h3 L 0 0 (k - 34 * L - 35) (by omega) (by omega)
  rw [show k - 34 * L - 35 + 34 * L + 35 = k by omega] at this
  exact this
theorem rmask (n : Nat) (h0 : 0 < n) (hl : (limbs n).length ≤ 64) (k : Nat) (hk : 2300 < k) : samphireref07_mask.f k (I (limbs n)) = some ((blen (n - 1) : Nat) : Int) := by
 have hb : n < 4294967296 ^ 64 := (limbs_len n 64).1 hl
 have hl1 : (limbs (n - 1)).length ≤ 64 := (limbs_len (n - 1) 64).2 (by omega)
 unfold samphireref07_mask.f
 rw [sub_one n h0 hl k (by omega), Option.bind_some, rbits (n - 1) hl1 k hk, Option.bind_some]
def hh : Nat → Nat → Nat → List Nat
 | 0, _, _ => []
 | n + 1, w, left => (w % 65536 % 2 ^ min 16 left) :: hh n (w / 65536) (left - 16)
theorem hh_len : ∀ n w left, (hh n w left).length = n
 | 0, _, _ => rfl
 | n + 1, w, left => by rw [hh, List.length_cons, hh_len]
theorem hh_dig : ∀ n w left, Dig 65536 (hh n w left)
 | 0, _, _ => Dig.nil _
 | n + 1, w, left => Dig.cons (Nat.lt_of_le_of_lt (Nat.mod_le _ _) (Nat.mod_lt _ (by decide))) (hh_dig n _ _)
theorem hh_val : ∀ n w left, val 65536 (hh n w left) = w % 2 ^ min left (16 * n)
 | 0, w, left => by rw [hh, Nat.mul_zero, Nat.min_zero, Nat.pow_zero, Nat.mod_one]; rfl
 | n + 1, w, left => by
  rw [hh, val, hh_val n]
  by_cases hc : left ≤ 16
  ·
   rw [show left - 16 = 0 by omega, Nat.zero_min, Nat.pow_zero, Nat.mod_one, Nat.mul_zero, Nat.add_zero, Nat.min_eq_right hc, Nat.min_eq_left (by omega)]
   exact Nat.mod_mod_of_dvd _ (show (2 : Nat) ^ left ∣ 65536 from Nat.pow_dvd_pow 2 hc)
  ·
   rw [Nat.min_eq_left (by omega : 16 ≤ left), show (2 : Nat) ^ 16 = 65536 by decide, Nat.mod_mod]
   obtain ⟨r, hr⟩ : ∃ r, min left (16 * (n + 1)) = 16 + r := ⟨min left (16 * (n + 1)) - 16, by omega⟩
   rw [hr, show min (left - 16) (16 * n) = r by omega, Nat.pow_add, show (2 : Nat) ^ 16 = 65536 by decide, Nat.mod_mul]
def H : Nat → List Nat → List Nat
 | _, [] => []
 | left, w :: ws => hh 4 w left ++ H (left - 64) ws
theorem H_dig : ∀ ws left, Dig 65536 (H left ws)
 | [], _ => Dig.nil _
 | w :: ws, left => (hh_dig 4 w left).append (H_dig ws _)
theorem H_len : ∀ ws left, (H left ws).length = 4 * ws.length
 | [], _ => rfl
 | w :: ws, left => by rw [H, List.length_append, hh_len, H_len, List.length_cons]; omega
theorem H_val : ∀ (ws : List Nat) (left : Nat), (∀ x ∈ ws, x < 18446744073709551616) → val 65536 (H left ws) = val 4294967296 (attD left ws)
 | [], _, _ => rfl
 | w :: ws, left, h => by
  rw [H, val_append, hh_len, hh_val, H_val ws (left - 64) (fun x hx => h x (List.mem_cons_of_mem _ hx)), attD, val, val, show left - min left 64 = left - 64 by omega]
  rw [show (65536 : Nat) ^ 4 = 18446744073709551616 by decide, show 16 * 4 = 64 from rfl]
  generalize val 4294967296 (attD (left - 64) ws) = z
  generalize w % 2 ^ min left 64 = y
  omega
theorem shl1 (left : Nat) (h : left < 16) : shl .u64 1 (left : Int) = ((2 ^ left : Nat) : Int) := by
 have : ∀ l : Fin 16, shl .u64 1 (l.val : Int) = ((2 ^ l.val : Nat) : Int) := by decide +kernel
 exact this ⟨left, h⟩
theorem half_step (w left : Nat) (h : left < 16) : Int.tmod (Int.tmod (w : Int) 65536) ((2 ^ left : Nat) : Int) = ((w % 65536 % 2 ^ min 16 left : Nat) : Int) := by
 rw [Nat.min_eq_right (by omega), Int.tmod_eq_emod_of_nonneg (by omega : (0 : Int) ≤ (w : Int)), show ((w : Int) % 65536) = ((w % 65536 : Nat) : Int) by omega, Int.tmod_eq_emod_of_nonneg (Int.natCast_nonneg _)]
 exact (Int.natCast_emod _ _).symm
theorem l2_loop (X : List Int) (bits : Nat) (cur : Int) (l : List Int) (a0 : Int) : ∀ (n j K w left : Nat) (hs : List Nat), j + n = 4 → w < 18446744073709551616 → left < 1000000 → hs.length + n < 1000000 →
  samphireref07_Below.l2 (K + n + 1) X (bits : Int) cur (I hs) (left : Int) (w : Int) (j : Int) l a0 = samphireref07_Below.l1 K X (bits : Int) cur (I (hs ++ hh n w left)) ((left - 16 * n : Nat) : Int) l a0 := by
 intro n
 induction n with
 | zero =>
  intro j K w left hs hj hw hl hh0
  obtain rfl : j = 4 := by omega
  rw [samphireref07_Below.l2, if_neg (by decide), hh, List.append_nil, Nat.mul_zero, Nat.sub_zero]
 | succ n ih =>
  intro j K w left hs hj hw hl hh0
  have c1 : (j : Int) < 4 := by omega
  have cl : (I hs).length < 17592186044416 := by rw [I_length]; omega
  have ew : IntKind.u64.wrap (Int.tdiv (w : Int) 65536) = ((w / 65536 : Nat) : Int) := by rw [Int.tdiv_eq_ediv_of_nonneg (by omega), IntKind.wrap_u64]; omega
  have hnext := ih (j + 1) K (w / 65536) (left - 16) (hs ++ [w % 65536 % 2 ^ min 16 left]) (by omega) (by omega) (by omega) (by rw [List.length_append, List.length_singleton]; omega)
  rw [List.append_assoc, show left - 16 - 16 * n = left - 16 * (n + 1) by omega, ← I_snoc] at hnext
  rw [hh, show K + (n + 1) + 1 = (K + n + 1) + 1 by omega, samphireref07_Below.l2, if_pos c1, ew, inc64 j (by omega)]
  refine Eq.trans ?_ hnext
  by_cases hc : left < 16
  ·
   have el : IntKind.u64.wrap (left : Int) = (left : Int) := by rw [IntKind.wrap_u64]; omega
   have e0 : wrap64 ((left : Int) - (left : Int)) = ((left - 16 : Nat) : Int) := by unfold wrap64; omega
   have hp : ¬ ((2 ^ left : Nat) : Int) = 0 := by have := Nat.two_pow_pos left; omega
   rw [if_pos (by omega), el, if_pos (by omega), shl1 left hc, if_neg hp, if_pos cl, half_step w left hc, e0]
  ·
   have e1 : Int.tmod (w : Int) 65536 = ((w % 65536 % 2 ^ min 16 left : Nat) : Int) := by
    rw [Nat.min_eq_left (by omega), show (2 : Nat) ^ 16 = 65536 by decide, Nat.mod_mod, Int.tmod_eq_emod_of_nonneg (by omega)]; omega
   have e2 : wrap64 ((left : Int) - 16) = ((left - 16 : Nat) : Int) := by unfold wrap64; omega
   rw [if_neg (by omega), if_neg (by decide), if_pos cl, e1, e2]
theorem l1_loop {l : List Int} {xs : List Nat} (h : Words l xs) (hl : xs.length < 100000) (X : List Int) (bits : Nat) (a0 : Int) : ∀ (q left cur K : Nat) (hs : List Nat), q = (left + 63) / 64 → cur ≤ xs.length → left < 3000 → hs.length + 4 * q < 900000 →
  samphireref07_Below.l1 (K + 6 * q + 1) X (bits : Int) (cur : Int) (I hs) (left : Int) l a0 = if xs.length - cur < q then some ([], l, a0, 8) else samphireref07_Below.l1 (K + 1) X (bits : Int) ((cur + q : Nat) : Int) (I (hs ++ H left ((xs.drop cur).take q))) 0 l a0 := by
 intro q
 induction q with
 | zero =>
  intro left cur K hs hq hcur hleft hhs
  obtain rfl : left = 0 := by omega
  rw [if_neg (by omega), List.take_zero, H, List.append_nil, Nat.mul_zero, Nat.add_zero, Nat.add_zero]; rfl
 | succ q ih =>
  intro left cur K hs hq hcur hleft hhs
  have hlen := h.length
  have hl0 : 0 < left := by omega
  rw [show K + 6 * (q + 1) + 1 = (K + 6 * q + 6) + 1 by omega, samphireref07_Below.l1, if_pos (by omega)]
  by_cases hc : cur = xs.length
  ·
   rw [if_pos (by omega), if_pos (by omega)]
  ·
   have hr := h.rd cur
   have hwl := h.lt cur
   have hd : xs.drop cur = xs.getD cur 0 :: xs.drop (cur + 1) := drop_getD xs cur (by omega)
   rw [if_neg (by omega), if_pos (by omega), if_pos (by omega), hr, inc64 cur (by omega)]
   have h2 := l2_loop X bits ((cur + 1 : Nat) : Int) l a0 4 0 (K + 6 * q + 1) (xs.getD cur 0) left hs (by omega) hwl (by omega) (by omega)
   rw [show K + 6 * q + 1 + 4 + 1 = K + 6 * q + 6 by omega] at h2
   refine Eq.trans h2 ?_
   rw [show left - 16 * 4 = left - 64 by omega]
   rw [ih (left - 64) (cur + 1) K (hs ++ hh 4 (xs.getD cur 0) left) (by omega) (by omega) (by omega) (by rw [List.length_append, hh_len]; omega)]
   by_cases hn : xs.length - cur < q + 1
   ·
    rw [if_pos hn, if_pos (by omega)]
   ·
    rw [if_neg hn, if_neg (by omega), hd, List.take_succ_cons, H, List.append_assoc, show cur + 1 + q = cur + (q + 1) by omega]
theorem l0_loop (n bits : Nat) (hn : 0 < n) (hnl : (limbs n).length ≤ 64) (hm : bits ≤ 2048) {l : List Int} {xs : List Nat} (h : Words l xs) (hl : xs.length < 1000) (a0 : Int) (c : Nat) (hc : c = 6 * ((bits + 63) / 64) + 2) : ∀ (f cur K : Nat), cur ≤ xs.length → xs.length - cur < f →
  samphireref07_Below.l0 (K + 1000 + f * c) (I (limbs n)) (bits : Int) (cur : Int) l a0 = some (told l l a0 (pickN bits n xs f cur)) := by
 intro f
 induction f with
 | zero => intro cur K _ h1; omega
 | succ f ih =>
  intro cur K hcur hf
  obtain ⟨q, hq⟩ : ∃ q, q = (bits + 63) / 64 := ⟨_, rfl⟩
  have hq33 : q ≤ 32 := by omega
  rw [show K + 1000 + (f + 1) * c = (K + 1000 + f * c + 6 * q + 1) + 1 by rw [Nat.succ_mul]; omega, samphireref07_Below.l0]
  have h1 := l1_loop h (by omega) (I (limbs n)) bits a0 q bits cur (K + 1000 + f * c) [] hq hcur (by omega) (by simp; omega)
  refine Eq.trans h1 ?_
  rw [pickN, ← hq]
  by_cases hs : xs.length - cur < q
  ·
   rw [if_pos hs, if_pos hs]; rfl
  ·
   rw [if_neg hs, if_neg hs, List.nil_append]
   have hwl : ∀ x ∈ (xs.drop cur).take q, x < 18446744073709551616 := fun x hx => h.2 x (List.mem_of_mem_drop (List.mem_of_mem_take hx))
   have hlen : ((xs.drop cur).take q).length = q := by rw [List.length_take, List.length_drop]; omega
   have hv : val 65536 (H bits ((xs.drop cur).take q)) = val 18446744073709551616 ((xs.drop cur).take q) % 2 ^ bits := by
    rw [H_val _ _ hwl, attD_val _ _ hwl (by rw [hlen]; omega)]
   have hlt : val 18446744073709551616 ((xs.drop cur).take q) % 2 ^ bits < 2 ^ bits := Nat.mod_lt _ (Nat.two_pow_pos _)
   have hHl : (H bits ((xs.drop cur).take q)).length ≤ 128 := by rw [H_len, hlen]; omega
   rw [samphireref07_Below.l1, if_neg (by decide), whole _ (H_dig _ _) (by omega) _ (by omega), Option.bind_some, hv]
   generalize val 18446744073709551616 ((xs.drop cur).take q) % 2 ^ bits = v at *
   have hvl := small_limbs v bits hlt hm
   rw [rcmp v n (by omega) (by omega) _ (by omega), Option.bind_some]
   by_cases hvn : v < n
   ·
    rw [if_pos (by unfold cmp; rw [if_pos hvn]; decide), if_pos hvn]; rfl
   ·
    have hq1 : 1 ≤ q := by
     rcases Nat.eq_zero_or_pos bits with e | e
     ·
      subst e; rw [Nat.pow_zero] at hlt; omega
     ·
      omega
    rw [if_neg (by unfold cmp; rw [if_neg hvn]; split <;> decide), if_neg hvn]
    exact ih (cur + q) K (by omega) (by omega)
theorem rright_limbs (n : Nat) (h : (limbs n).length ≤ 64) : samphireref02_Right.f (I (limbs n)) = some true := by
 unfold samphireref02_Right.f
 rw [I_length, if_neg (by omega)]
 by_cases h0 : (limbs n).length = 0
 ·
  rw [if_pos (by omega)]
 ·
  obtain ⟨m, hm⟩ : ∃ m, (limbs n).length = m + 1 := ⟨(limbs n).length - 1, by omega⟩
  have hl := limbs_last n (fun e => by subst e; rw [limbs_zero] at h0; exact h0 rfl)
  rw [hm, show m + 1 - 1 = m by omega] at hl
  rw [if_neg (by omega), hm, pred64 m (by omega), rd_I, if_pos (by omega), if_pos (by omega)]
  congr 1
  exact decide_eq_true (by omega)
theorem rbelow (n : Nat) (hn : 0 < n) (hnl : (limbs n).length ≤ 64) (l : List Int) (xs : List Nat) (h : Words l xs) (hl : xs.length ≤ 60) (at_ : Nat) (hat : at_ ≤ xs.length) (K : Nat) (hK : 20000 ≤ K) :
  samphireref07_Below.f K l (at_ : Int) (I (limbs n)) = some (told l l (at_ : Int) (pickN (blen (n - 1)) n xs (xs.length + 1) at_)) := by
 have hlen := h.length
 have hb : n < 4294967296 ^ 64 := (limbs_len n 64).1 hnl
 have hmany : blen (n - 1) ≤ 2048 := by
  refine blen_le _ _ ?_
  rw [show (4294967296 : Nat) = 2 ^ 32 by decide, ← Nat.pow_mul] at hb
  have : n - 1 < 2 ^ (32 * 64) := by omega
  exact this
 have hne := limbs_ne_nil n (by omega)
 obtain ⟨K, rfl⟩ : ∃ j, K = j + 1 := ⟨K - 1, by omega⟩
 unfold samphireref07_Below.f
 rw [rright_limbs n hnl, Option.bind_some, if_pos rfl, if_neg (by rw [I_length]; omega), if_neg (by omega), decide_eq_false (by omega), samphireref07_Below.j0, if_neg (by decide), rmask n hn hnl K (by omega), Option.bind_some]
 obtain ⟨c, hc⟩ : ∃ c, c = 6 * ((blen (n - 1) + 63) / 64) + 2 := ⟨_, rfl⟩
 have hc2 : c ≤ 200 := by omega
 have hcm : (xs.length + 1) * c ≤ 61 * 200 := Nat.mul_le_mul (by omega) hc2
 have := l0_loop n (blen (n - 1)) hn hnl hmany h (by omega) (at_ : Int) c hc (xs.length + 1) at_ (K - 1000 - (xs.length + 1) * c) hat (by omega)
 rw [show K - 1000 - (xs.length + 1) * c + 1000 + (xs.length + 1) * c = K by omega] at this
 exact this
theorem pick_both (m d : Nat) (h0 : m ≠ 0) (hm : m ≤ 64) (xs : List Nat) (f : Nat) : ∀ i, i ≤ xs.length → xs.length - i < f → pickN m d xs f i = pick (2 ^ m) d (xs.drop i) i := by
 induction f with
 | zero => intro i _ h; omega
 | succ f ih =>
  intro i hi hf
  rw [pickN, show (m + 63) / 64 = 1 by omega]
  by_cases hc : xs.length - i < 1
  ·
   rw [if_pos hc, List.drop_of_length_le (by omega), pick]
  ·
   rw [if_neg hc, drop_getD xs i (by omega), pick, show (xs.getD i 0 :: xs.drop (i + 1)).take 1 = [xs.getD i 0] from rfl, val, val, Nat.mul_zero, Nat.add_zero, ih (i + 1) (by omega) (by omega)]
theorem pick_shift (M d : Nat) : ∀ (l : List Nat) (i a : Nat), pick M d l (a + i) = (pick M d l i).map (fun r => (r.1, a + r.2)) := by
 intro l
 induction l with
 | nil => intro i a; rfl
 | cons y l ih =>
  intro i a
  rw [pick, pick]
  by_cases hc : y % M < d
  ·
   rw [if_pos hc, if_pos hc]; rfl
  ·
   rw [if_neg hc, if_neg hc, Nat.add_assoc, ih]
theorem pick_lt (M d : Nat) : ∀ (l : List Nat) (i x j : Nat), pick M d l i = some (x, j) → x < d := by
 intro l
 induction l with
 | nil => intro i x j h; cases h
 | cons y l ih =>
  intro i x j h
  rw [pick] at h
  split at h
  ·
   rename_i hlt; cases h; exact hlt
  ·
   exact ih _ _ _ h
theorem right_no (l : List Int) (a : Int) (h : ¬ (0 ≤ a ∧ a ≤ (l.length : Int))) : draw_right.f l a = some false := by
 unfold draw_right.f
 by_cases h1 : a ≥ 0
 ·
  rw [if_pos h1, decide_eq_false (by omega)]
 ·
  rw [if_neg h1]
theorem ref_out (K n : Nat) (hn : 0 < n) (hnl : (limbs n).length ≤ 64) (l : List Int) (a : Int) (h : ¬ (0 ≤ a ∧ a ≤ (l.length : Int))) (hK : 0 < K) : samphireref07_Below.f K l a (I (limbs n)) = some ([], l, a, 1) := by
 have hne := limbs_ne_nil n (by omega)
 obtain ⟨K, rfl⟩ : ∃ j, K = j + 1 := ⟨K - 1, by omega⟩
 have hj : ∀ b, b = true → samphireref07_Below.j0 (K + 1) (I (limbs n)) b l a = some ([], l, a, 1) := fun b hb => by rw [hb, samphireref07_Below.j0, if_pos rfl]
 unfold samphireref07_Below.f
 rw [rright_limbs n hnl, Option.bind_some, if_pos rfl, if_neg (by rw [I_length]; omega)]
 by_cases h1 : a < 0
 ·
  rw [if_pos h1]; exact hj _ rfl
 ·
  rw [if_neg h1]; exact hj _ (decide_eq_true (by omega))
theorem partA (K d : Nat) (hd : d < 18446744073709551616) (l : List Int) (xs : List Nat) (h : Words l xs) (hl : xs.length ≤ 60) (a : Int) (hK : 20000 ≤ K) :
  ∃ (v : Nat) (p e : Int), draw_Below.f K l a (d : Int) = some ((v : Int), l, p, e) ∧ samphireref07_Below.f K l a (I (limbs d)) = some (I (limbs v), l, p, e) ∧ v < 18446744073709551616 := by
 have hlen := h.length
 have hnl : (limbs d).length ≤ 64 := (limbs_len d 64).2 (Nat.lt_of_lt_of_le hd (Nat.le_trans (by decide : 18446744073709551616 ≤ 4294967296 ^ 2) (Nat.pow_le_pow_right (by decide) (by decide))))
 rcases Nat.eq_zero_or_pos d with rfl | hd0
 ·
  refine ⟨0, a, 7, ?_, ?_, by decide⟩
  ·
   unfold draw_Below.f; exact if_pos rfl
  ·
   unfold samphireref07_Below.f
   rw [limbs_zero]; rfl
 ·
  by_cases ha : 0 ≤ a ∧ a ≤ (l.length : Int)
  ·
   obtain ⟨at_, rfl⟩ : ∃ n : Nat, a = n := ⟨a.toNat, by omega⟩
   have hm64 : blen (d - 1) ≤ 64 := blen_le _ 64 (by omega)
   have e0 : Lib.bitLen (d - 1) = blen (d - 1) := bitLen_blen (d - 1) (by omega)
   have hB := below d (blen (d - 1)) hd0 hd e0 hm64 h at_ (by omega) (by omega) K (by omega)
   have hN := rbelow d hd0 hnl l xs h hl at_ (by omega) K hK
   have hlt := blen_lt (d - 1)
   generalize blen (d - 1) = m at hB hN hm64 hlt
   rw [hB, hN]
   by_cases hm0 : m = 0
   ·
    subst hm0
    have hd1 : d = 1 := by rw [Nat.pow_zero] at hlt; omega
    have ep : pickN 0 d xs (xs.length + 1) at_ = some (0, at_) := by
     rw [pickN, if_neg (by omega), Nat.pow_zero, Nat.mod_one, if_pos (by omega)]; rfl
    rw [ep, if_pos rfl]
    exact ⟨0, at_, 0, rfl, rfl, by decide⟩
   ·
    have hsh := pick_shift (2 ^ m) d (xs.drop at_) 0 at_
    rw [Nat.add_zero] at hsh
    rw [if_neg hm0, pick_both m d hm0 hm64 xs _ at_ (by omega) (by omega), hsh]
    cases hp : pick (2 ^ m) d (xs.drop at_) 0 with
    | none => exact ⟨0, at_, 8, rfl, by rw [limbs_zero]; rfl, by decide⟩
    | some r =>
     obtain ⟨x, j⟩ := r
     have hx := pick_lt _ _ _ _ _ _ hp
     exact ⟨x, ((at_ + j : Nat) : Int), 0, rfl, rfl, by omega⟩
  ·
   refine ⟨0, a, 1, ?_, by rw [limbs_zero]; exact ref_out K d hd0 hnl l a ha (by omega), by decide⟩
   unfold draw_Below.f
   rw [if_neg (by omega), right_no l a ha, Option.bind_some, if_neg (by decide)]; rfl
end Go.Proofs.Ythgacimoifbhiaa.DrawP
