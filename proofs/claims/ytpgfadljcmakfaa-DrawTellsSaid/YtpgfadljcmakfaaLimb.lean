/- Naturals as limbs: values, the shortest limbs, comparisons, differences; plain law over lists of numbers. -/
import Derived.Test.YtpgfadljcmakfaaWMore
import Derived.Laws.Bits64b
namespace Go.Proofs.Ytpgfadljcmakfaa.Limb
open Go.RowKit Go.Proofs.YtpgfadljcmakfaaW.PrintWords Go.Proofs.YtpgfadljcmakfaaW.PrintLast

theorem bnd {α β : Type} {o : Option α} {f : α → Option β} {x : α} {r : Option β} (h : o = some x) (h2 : f x = r) : o.bind f = r := by subst h; exact h2
theorem ift {α : Type} {c : Prop} {d : Decidable c} {x y r : α} (h : c) (h2 : x = r) : (@ite α c d x y) = r := by rw [if_pos h]; exact h2
theorem iff_ {α : Type} {c : Prop} {d : Decidable c} {x y r : α} (h : ¬ c) (h2 : y = r) : (@ite α c d x y) = r := by rw [if_neg h]; exact h2
theorem wrap64_nat (n : Nat) (h : n < 9223372036854775808) : wrap64 (n : Int) = (n : Int) := by unfold wrap64; omega

/-- Numbers, as the walks have them. -/
def I (xs : List Nat) : List Int := xs.map (fun x : Nat => (x : Int))
theorem I_length (xs : List Nat) : (I xs).length = xs.length := by simp [I]
theorem I_nil : I [] = [] := rfl
theorem I_cons (x : Nat) (xs : List Nat) : I (x :: xs) = (x : Int) :: I xs := rfl
theorem I_append (xs ys : List Nat) : I (xs ++ ys) = I xs ++ I ys := by simp [I]
theorem I_snoc (xs : List Nat) (y : Nat) : I xs ++ [(y : Int)] = I (xs ++ [y]) := by simp [I]
theorem I_take (xs : List Nat) (n : Nat) : (I xs).take n = I (xs.take n) := by simp [I, List.map_take]
theorem I_drop (xs : List Nat) (n : Nat) : (I xs).drop n = I (xs.drop n) := by simp [I, List.map_drop]
theorem I_set (xs : List Nat) (i y : Nat) : (I xs).set i (y : Int) = I (xs.set i y) := by simp [I, List.map_set]
theorem I_replicate (n : Nat) : List.replicate n (0 : Int) = I (List.replicate n 0) := by simp [I]
theorem I_inj {xs ys : List Nat} (h : I xs = I ys) : xs = ys := by
  induction xs generalizing ys with
  | nil => cases ys with
    | nil => rfl
    | cons y ys => cases h
  | cons x xs ih => cases ys with
    | nil => cases h
    | cons y ys =>
      rw [I_cons, I_cons] at h
      injection h with h1 h2
      rw [ih h2, Int.ofNat_inj.1 h1]
theorem rd_I (xs : List Nat) (i : Nat) : rd (I xs) (i : Int) = ((xs.getD i 0 : Nat) : Int) := by
  unfold rd I
  simp only [Int.toNat_natCast, List.getD_eq_getElem?_getD, List.getElem?_map]
  cases xs[i]? <;> rfl
theorem of_wf {k : IntKind} {b : Nat} (hk : k.min = 0 ∧ k.max = (b : Int) - 1) (l : List Int) (h : ∀ x ∈ l, (Lit.int k x).wf = true) : ∃ xs, l = I xs ∧ ∀ x ∈ xs, x < b := by
  refine ⟨l.map Int.toNat, ?_, ?_⟩
  · unfold I; rw [List.map_map]
    conv => lhs; rw [← List.map_id l]
    refine List.map_congr_left fun x hx => ?_
    have := h x hx
    simp [Lit.wf, hk.1, hk.2] at this
    simp only [id, Function.comp]
    omega
  · intro x hx
    obtain ⟨y, hy, rfl⟩ := List.mem_map.1 hx
    have := h y hy
    simp [Lit.wf, hk.1, hk.2] at this
    omega

/-- What digits are worth, the lowest first. -/
def val (B : Nat) : List Nat → Nat
  | [] => 0
  | x :: xs => x + B * val B xs
/-- Are all digits below the base? -/
def Dig (B : Nat) (xs : List Nat) : Prop := ∀ x ∈ xs, x < B
theorem Dig.nil (B : Nat) : Dig B [] := fun _ h => by cases h
theorem Dig.cons {B x : Nat} {xs : List Nat} (h : x < B) (hs : Dig B xs) : Dig B (x :: xs) := fun y hy => by
  rcases List.mem_cons.1 hy with rfl | hy
  · exact h
  · exact hs y hy
theorem Dig.head {B x : Nat} {xs : List Nat} (h : Dig B (x :: xs)) : x < B := h x (List.mem_cons_self ..)
theorem Dig.tail {B x : Nat} {xs : List Nat} (h : Dig B (x :: xs)) : Dig B xs := fun y hy => h y (List.mem_cons_of_mem _ hy)
theorem Dig.take {B : Nat} {xs : List Nat} (h : Dig B xs) (n : Nat) : Dig B (xs.take n) := fun x hx => h x (List.mem_of_mem_take hx)
theorem Dig.drop {B : Nat} {xs : List Nat} (h : Dig B xs) (n : Nat) : Dig B (xs.drop n) := fun x hx => h x (List.mem_of_mem_drop hx)
theorem Dig.append {B : Nat} {xs ys : List Nat} (h : Dig B xs) (k : Dig B ys) : Dig B (xs ++ ys) := fun x hx => by
  rcases List.mem_append.1 hx with hx | hx
  · exact h x hx
  · exact k x hx
theorem Dig.getD {B : Nat} {xs : List Nat} (h : Dig B xs) (hB : 0 < B) (i : Nat) : xs.getD i 0 < B := by
  rw [List.getD_eq_getElem?_getD]
  rcases hx : xs[i]? with _ | x
  · exact hB
  · exact h x (List.mem_of_getElem? hx)
theorem val_append (B : Nat) (xs ys : List Nat) : val B (xs ++ ys) = val B xs + B ^ xs.length * val B ys := by
  induction xs with
  | nil => simp [val]
  | cons x xs ih =>
    show x + B * val B (xs ++ ys) = x + B * val B xs + B ^ (xs.length + 1) * val B ys
    rw [ih, Nat.mul_add, Nat.pow_succ, Nat.mul_comm (B ^ xs.length) B, Nat.mul_assoc, Nat.add_assoc]
theorem val_lt {B : Nat} {xs : List Nat} (h : Dig B xs) : val B xs < B ^ xs.length := by
  induction xs with
  | nil => exact Nat.one_pos
  | cons x xs ih =>
    have h1 := ih h.tail
    have h2 := h.head
    show x + B * val B xs < B ^ (xs.length + 1)
    rw [Nat.pow_succ, Nat.mul_comm _ B]
    calc x + B * val B xs < B + B * val B xs := Nat.add_lt_add_right h2 _
      _ = B * (val B xs + 1) := by rw [Nat.mul_add, Nat.mul_one, Nat.add_comm]
      _ ≤ B * B ^ xs.length := Nat.mul_le_mul_left _ h1
theorem take_succ_getD (xs : List Nat) (n : Nat) (h : n < xs.length) : xs.take (n + 1) = xs.take n ++ [xs.getD n 0] := by
  rw [List.take_add_one, List.getD_eq_getElem?_getD, List.getElem?_eq_getElem h]; rfl
theorem val_zeros (B n : Nat) : val B (List.replicate n 0) = 0 := by
  induction n with
  | zero => rfl
  | succ n ih => rw [List.replicate_succ, val, ih]; simp

/-- The shortest limbs of 32 bits. -/
def limbs (n : Nat) : List Nat := if n = 0 then [] else n % 4294967296 :: limbs (n / 4294967296)
termination_by n
decreasing_by exact Nat.div_lt_self (by omega) (by decide)
theorem limbs_zero : limbs 0 = [] := by rw [limbs]; rfl
theorem limbs_pos (n : Nat) (h : n ≠ 0) : limbs n = n % 4294967296 :: limbs (n / 4294967296) := by rw [limbs, if_neg h]
theorem limbs_dig (n : Nat) : Dig 4294967296 (limbs n) := by
  induction n using Nat.strongRecOn with
  | ind n ih =>
    by_cases h : n = 0
    · subst h; rw [limbs_zero]; exact Dig.nil _
    · rw [limbs_pos n h]; exact Dig.cons (Nat.mod_lt _ (by decide)) (ih _ (Nat.div_lt_self (by omega) (by decide)))
theorem val_limbs (n : Nat) : val 4294967296 (limbs n) = n := by
  induction n using Nat.strongRecOn with
  | ind n ih =>
    by_cases h : n = 0
    · subst h; rw [limbs_zero]; rfl
    · rw [limbs_pos n h, val, ih _ (Nat.div_lt_self (by omega) (by decide))]; omega
theorem limbs_val : ∀ (xs : List Nat), Dig 4294967296 xs → xs.getLast? ≠ some 0 → limbs (val 4294967296 xs) = xs
  | [], _, _ => limbs_zero
  | [x], h, hl => by
    have h1 := h.head
    have h2 : x ≠ 0 := fun e => hl (by rw [e]; rfl)
    rw [val, val, limbs_pos _ (by omega), show (x + 4294967296 * 0) / 4294967296 = 0 by omega, limbs_zero, show (x + 4294967296 * 0) % 4294967296 = x by omega]
  | x :: y :: ys, h, hl => by
    have h1 := h.head
    have ih := limbs_val (y :: ys) h.tail (by rw [List.getLast?_cons_cons] at hl; exact hl)
    rw [val]
    generalize val 4294967296 (y :: ys) = v at ih
    have hv : v ≠ 0 := fun e => by rw [e, limbs_zero] at ih; cases ih
    rw [limbs_pos _ (by omega), show (x + 4294967296 * v) / 4294967296 = v by omega, ih, show (x + 4294967296 * v) % 4294967296 = x by omega]
theorem limbs_snoc (xs : List Nat) (x : Nat) (h : Dig 4294967296 xs) (hx : x < 4294967296) (h0 : x ≠ 0) : limbs (val 4294967296 (xs ++ [x])) = xs ++ [x] :=
  limbs_val _ (h.append (Dig.cons hx (Dig.nil _))) (by rw [List.getLast?_concat]; intro e; exact h0 (Option.some.inj e))
theorem limbs_last (n : Nat) (h : n ≠ 0) : (limbs n).getD ((limbs n).length - 1) 0 ≠ 0 := by
  induction n using Nat.strongRecOn with
  | ind n ih =>
    rw [limbs_pos n h]
    by_cases h1 : n / 4294967296 = 0
    · rw [h1, limbs_zero]; show n % 4294967296 ≠ 0; omega
    · have := ih _ (Nat.div_lt_self (by omega) (by decide)) h1
      have h2 : (limbs (n / 4294967296)).length ≠ 0 := by rw [limbs_pos _ h1]; simp
      generalize limbs (n / 4294967296) = L at this h2
      obtain ⟨m, hm⟩ : ∃ m, L.length = m + 1 := ⟨L.length - 1, by omega⟩
      rw [hm] at this
      rw [List.length_cons, hm]
      exact this
theorem limbs_len (n j : Nat) : (limbs n).length ≤ j ↔ n < 4294967296 ^ j := by
  induction j generalizing n with
  | zero =>
    by_cases h : n = 0
    · subst h; rw [limbs_zero]; simp
    · rw [limbs_pos n h]; simp; omega
  | succ j ih =>
    by_cases h : n = 0
    · subst h; rw [limbs_zero]; simp
      exact Nat.pow_pos (by decide)
    · rw [limbs_pos n h, List.length_cons, Nat.add_le_add_iff_right, ih, Nat.pow_succ, Nat.div_lt_iff_lt_mul (by decide)]
theorem limbs_ne_nil (n : Nat) (h : n ≠ 0) : (limbs n).length ≠ 0 := by rw [limbs_pos n h]; simp

/-- The last limb and those ahead of it. -/
theorem val_take_succ {B : Nat} (xs : List Nat) (n : Nat) (h : n < xs.length) : val B (xs.take (n + 1)) = val B (xs.take n) + B ^ n * xs.getD n 0 := by
  rw [take_succ_getD xs n h, val_append, List.length_take, Nat.min_eq_left (by omega), val, val, Nat.mul_zero, Nat.add_zero]

/-- Limbs' difference, with what is owed. -/
def subD : List Nat → List Nat → Nat → List Nat
  | [], _, _ => []
  | a :: as, bs, o => if bs.headD 0 + o ≤ a then (a - bs.headD 0 - o) :: subD as bs.tail 0 else (4294967296 + a - bs.headD 0 - o) :: subD as bs.tail 1
theorem subD_dig : ∀ (as bs : List Nat) (o : Nat), Dig 4294967296 as → Dig 4294967296 bs → o ≤ 1 → Dig 4294967296 (subD as bs o)
  | [], _, _, _, _, _ => Dig.nil _
  | a :: as, bs, o, ha, hb, ho => by
    have h1 := ha.head
    have h2 : Dig 4294967296 bs.tail := fun x hx => hb x (List.mem_of_mem_tail hx)
    rw [subD]
    split
    · exact Dig.cons (by omega) (subD_dig as _ 0 ha.tail h2 (by omega))
    · exact Dig.cons (by omega) (subD_dig as _ 1 ha.tail h2 (by omega))
theorem val_headD (bs : List Nat) : val 4294967296 bs = bs.headD 0 + 4294967296 * val 4294967296 bs.tail := by
  cases bs <;> rfl
theorem subD_val : ∀ (as bs : List Nat) (o : Nat), Dig 4294967296 as → Dig 4294967296 bs → o ≤ 1 → val 4294967296 bs + o ≤ val 4294967296 as → val 4294967296 (subD as bs o) + val 4294967296 bs + o = val 4294967296 as
  | [], bs, o, _, _, _, h => by rw [subD]; rw [val] at h ⊢; omega
  | a :: as, bs, o, ha, hb, ho, h => by
    have h1 := ha.head
    have h2 : Dig 4294967296 bs.tail := fun x hx => hb x (List.mem_of_mem_tail hx)
    have h3 : bs.headD 0 < 4294967296 := by cases bs with
      | nil => decide
      | cons b bs => exact hb.head
    rw [val_headD bs, val] at h
    rw [subD, val_headD bs]
    split
    · have := subD_val as bs.tail 0 ha.tail h2 (by omega) (by omega)
      rw [val, val]; omega
    · have := subD_val as bs.tail 1 ha.tail h2 (by omega) (by omega)
      rw [val, val]; omega
end Go.Proofs.Ytpgfadljcmakfaa.Limb
