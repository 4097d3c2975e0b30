/- Draws, over numbers and lists: what Below tells. -/
import Derived.Test.YthgacimoifbhiaaQx1
namespace Go.Proofs.Ythgacimoifbhiaa.Draw
open Go.RowKit Go.Proofs.Ythgacimoifbhiaa.Q Go.Proofs.YthgacimoifbhiaaW.PrintWords Go.Proofs.YthgacimoifbhiaaW.PrintLast

theorem bnd {α β : Type} {o : Option α} {f : α → Option β} {x : α} {r : Option β} (h : o = some x) (h2 : f x = r) : o.bind f = r := by subst h; exact h2
theorem ift {α : Type} {c : Prop} {d : Decidable c} {x y r : α} (h : c) (h2 : x = r) : (@ite α c d x y) = r := by rw [if_pos h]; exact h2
theorem iff_ {α : Type} {c : Prop} {d : Decidable c} {x y r : α} (h : ¬ c) (h2 : y = r) : (@ite α c d x y) = r := by rw [if_neg h]; exact h2


theorem mask (m : Nat) (hm : m ≤ 64) : IntKind.u64.wrap ((shl .u64 1 (m : Int)) - 1) = ((2 ^ m - 1 : Nat) : Int) := by
  have h : ∀ m : Fin 65, IntKind.u64.wrap ((shl .u64 1 (m.val : Int)) - 1) = ((2 ^ m.val - 1 : Nat) : Int) := by decide +kernel
  exact h ⟨m, by omega⟩
theorem pow64 (m : Nat) (hm : m ≤ 64) : 2 ^ m - 1 < 18446744073709551616 := by
  have h : ∀ m : Fin 65, 2 ^ m.val - 1 < 18446744073709551616 := by decide +kernel
  exact h ⟨m, by omega⟩
theorem masked (x : Nat) (hx : x < 18446744073709551616) (m : Nat) (hm : m ≤ 64) : Go.bits .and .u64 (x : Int) (IntKind.u64.wrap ((shl .u64 1 (m : Int)) - 1)) = ((x % 2 ^ m : Nat) : Int) := by
  rw [mask m hm, bits_and_u64_nat _ _ hx (pow64 m hm), Nat.and_two_pow_sub_one_eq_mod]

/-- The first of the words that, masked, lies below the bound, and how many are taken with it. -/
def pick (M d : Nat) : List Nat → Nat → Option (Nat × Nat)
  | [], _ => none
  | x :: xs, i => if x % M < d then some (x % M, i + 1) else pick M d xs (i + 1)

def Words (l : List Int) (xs : List Nat) : Prop := l = xs.map (fun x : Nat => (x : Int)) ∧ ∀ x ∈ xs, x < 18446744073709551616
theorem words_of (l : List Int) (h : ∀ x ∈ l, (Lit.int .u64 x).wf = true) : ∃ xs, Words l xs := by
  refine ⟨l.map Int.toNat, ?_, ?_⟩
  · rw [List.map_map]
    conv => lhs; rw [← List.map_id l]
    refine List.map_congr_left fun x hx => ?_
    have := h x hx
    simp [Lit.wf, IntKind.min, IntKind.max, IntKind.signed, IntKind.bits] at this
    simp only [id, Function.comp]
    omega
  · intro x hx
    obtain ⟨y, hy, rfl⟩ := List.mem_map.1 hx
    have := h y hy
    simp [Lit.wf, IntKind.min, IntKind.max, IntKind.signed, IntKind.bits] at this
    omega

theorem Words.length {l : List Int} {xs : List Nat} (h : Words l xs) : l.length = xs.length := by rw [h.1, List.length_map]
theorem Words.drop {l : List Int} {xs : List Nat} (h : Words l xs) (n : Nat) : Words (l.drop n) (xs.drop n) := ⟨by rw [h.1, List.map_drop], fun x hx => h.2 x (List.mem_of_mem_drop hx)⟩
theorem Words.rd {l : List Int} {xs : List Nat} (h : Words l xs) (i : Nat) : rd l (i : Int) = ((xs.getD i 0 : Nat) : Int) := by
  rw [h.1]; unfold Go.Proofs.YthgacimoifbhiaaW.PrintWords.rd
  simp only [Int.toNat_natCast, List.getD_eq_getElem?_getD, List.getElem?_map]
  cases xs[i]? <;> rfl
theorem Words.lt {l : List Int} {xs : List Nat} (h : Words l xs) (i : Nat) : xs.getD i 0 < 18446744073709551616 := by
  rw [List.getD_eq_getElem?_getD]
  rcases hx : xs[i]? with _ | x
  · decide
  · exact h.2 x (List.mem_of_getElem? hx)

theorem wrap64_nat (n : Nat) (h : n < 9223372036854775808) : wrap64 (n : Int) = (n : Int) := by unfold wrap64; omega
theorem wrap64_add1 (n : Nat) (h : n < 9223372036854775807) : wrap64 ((n : Int) + 1) = ((n + 1 : Nat) : Int) := by unfold wrap64; omega

/-- What Below's loop tells, from a place on. -/
theorem below_loop (d m : Nat) (hm : m ≤ 64) (l0 : List Int) (at_ : Nat) {l : List Int} {xs : List Nat} (h : Words l xs) (hl : xs.length + at_ < 9223372036854775807) (n : Nat) : ∀ (i k : Nat), i + n = xs.length → n < k →
    draw_Below.l0 k (d : Int) (m : Int) l (l.length : Int) (i : Int) l0 (at_ : Int) = some (match pick (2 ^ m) d (xs.drop i) i with
      | some (x, j) => ((x : Int), l0, ((at_ + j : Nat) : Int), 0)
      | none => (0, l0, (at_ : Int), 8)) := by
  induction n with
  | zero =>
    intro i k hi hk
    obtain ⟨k, rfl⟩ : ∃ j, k = j + 1 := ⟨k - 1, by omega⟩
    rw [draw_Below.l0, if_neg (by rw [h.length]; omega), List.drop_of_length_le (by omega)]
    rfl
  | succ n ih =>
    intro i k hi hk
    obtain ⟨k, rfl⟩ : ∃ j, k = j + 1 := ⟨k - 1, by omega⟩
    have hd : xs.drop i = xs.getD i 0 :: xs.drop (i + 1) := by
      rw [List.getD_eq_getElem?_getD, List.getElem?_eq_getElem (by omega), Option.getD_some, List.drop_eq_getElem_cons (by omega)]
    have hlen := h.length
    rw [draw_Below.l0]
    refine ift (by omega) (ift (by omega) (ift (by omega) (ift (by omega) ?_)))
    rw [h.rd, masked _ (h.lt i) m hm, hd, pick, wrap64_add1 i (by omega)]
    by_cases hc : xs.getD i 0 % 2 ^ m < d
    · rw [if_pos (by omega), if_pos hc]
      have e : wrap64 ((at_ : Int) + ((i + 1 : Nat) : Int)) = ((at_ + (i + 1) : Nat) : Int) := by rw [← Int.natCast_add]; exact wrap64_nat _ (by omega)
      rw [e]
    · rw [if_neg (by omega), if_neg hc]
      exact ih (i + 1) k (by omega) (by omega)

/-- What Below tells of a bound that is not 0. -/
theorem below (d m : Nat) (hd0 : 0 < d) (hd : d < 18446744073709551616) (hm : Lib.bitLen (d - 1) = m) (hm64 : m ≤ 64) {l : List Int} {xs : List Nat} (h : Words l xs) (at_ : Nat) (hat : at_ ≤ xs.length) (hl : xs.length < 4611686018427387904) (k : Nat) (hk : xs.length < k) :
    draw_Below.f k l (at_ : Int) (d : Int) = some (if m = 0 then ((0 : Int), l, (at_ : Int), (0 : Int)) else match pick (2 ^ m) d (xs.drop at_) 0 with
      | some (x, j) => ((x : Int), l, ((at_ + j : Nat) : Int), 0)
      | none => (0, l, (at_ : Int), 8)) := by
  have hlen := h.length
  unfold draw_Below.f
  refine iff_ (by omega) ?_
  refine bnd (x := true) (by unfold draw_right.f; rw [if_pos (by omega), decide_eq_true (by omega)]) ?_
  refine ift rfl ?_
  have e1 : IntKind.u64.wrap ((d : Int) - 1) = ((d - 1 : Nat) : Int) := by rw [IntKind.wrap_u64]; omega
  refine bnd (x := (m : Int)) (by unfold bits_Len64.f; rw [e1, if_pos (by omega), Int.toNat_natCast, hm]) ?_
  by_cases h0 : m = 0
  · subst h0; rw [if_pos rfl, if_pos (by rfl)]
  · rw [if_neg (by omega), if_neg h0]
    refine ift (by omega) (ift (by omega) ?_)
    refine bnd rfl ?_
    rw [Int.toNat_natCast]
    have h2 := h.drop at_
    have := below_loop d m hm64 l at_ h2 (by rw [List.length_drop]; omega) (xs.drop at_).length 0 k (by omega) (by rw [List.length_drop]; omega)
    rw [List.drop_zero] at this
    exact this
end Go.Proofs.Ythgacimoifbhiaa.Draw
