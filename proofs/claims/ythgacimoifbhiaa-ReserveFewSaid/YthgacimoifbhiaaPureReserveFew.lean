/- ReserveFew, over plain lists: as long as no more than K came, all are there, in order, and no word is taken. -/
import Derived.Test.YthgacimoifbhiaaQx3
namespace Go.Proofs.Ythgacimoifbhiaa.Pure
open Go.RowKit Go.Proofs.Ythgacimoifbhiaa.Q Go.Proofs.YthgacimoifbhiaaW.PrintWords Go.Proofs.YthgacimoifbhiaaW.PrintLast
set_option linter.unusedVariables false
theorem bnd {α β : Type} {o : Option α} {f : α → Option β} {x : α} {r : Option β} (h : o = some x) (h2 : f x = r) : o.bind f = r := by subst h; exact h2
theorem ift {α : Type} {c : Prop} {d : Decidable c} {x y r : α} (h : c) (h2 : x = r) : (@ite α c d x y) = r := by rw [if_pos h]; exact h2
theorem iff_ {α : Type} {c : Prop} {d : Decidable c} {x y r : α} (h : ¬ c) (h2 : y = r) : (@ite α c d x y) = r := by rw [if_neg h]; exact h2
theorem awake0 : samphirelaw16_awake.f 30 = some true := by decide +kernel
theorem awake (k : Nat) : samphirelaw16_awake.f (30 + k) = some true := more_rounds samphirelaw16_awake.mono 30 k true awake0
theorem awake' {k : Nat} (h : 30 ≤ k) : samphirelaw16_awake.f k = some true := by
  obtain ⟨j, rfl⟩ : ∃ j, k = 30 + j := ⟨k - 30, by omega⟩
  exact awake j
theorem rd_at (l : List ByteArray) (i : Nat) (h : i < l.length) : rdOf ByteArray.empty l (i : Int) = l[i] := by
  unfold rdOf
  rw [Int.toNat_natCast, List.getD_eq_getElem?_getD, List.getElem?_eq_getElem h]; rfl
theorem strings_loop (l : List ByteArray) (hl : l.length ≤ 20) (m : Nat) : ∀ (i k : Nat), i + m = l.length → m < k → samphireref16_Strings.l0 k l l (i : Int) = some true := by
  induction m with
  | zero =>
    intro i k hi hk
    obtain ⟨k, rfl⟩ : ∃ j, k = j + 1 := ⟨k - 1, by omega⟩
    simp only [samphireref16_Strings.l0]
    rw [if_neg (by omega)]
  | succ m ih =>
    intro i k hi hk
    obtain ⟨k, rfl⟩ : ∃ j, k = j + 1 := ⟨k - 1, by omega⟩
    simp only [samphireref16_Strings.l0]
    rw [if_pos (by omega), if_pos (by omega), if_pos (by omega), if_pos trivial]
    rw [show wrap64 ((i : Int) + 1) = ((i + 1 : Nat) : Int) by unfold wrap64; omega]
    exact ih (i + 1) k (by omega) (by omega)
theorem few_loop (l : List ByteArray) (hl : l.length ≤ 20) (m : Nat) : ∀ (i k : Nat), i + m = l.length → m + 60 < k → (∀ x ∈ l.take i, x.size ≤ 64) →
    samphirelaw16_ReserveFew.l0 k l 0 l (l.length : Int) (i : Int) 20 (i : Int) (l.take i) = some true := by
  induction m with
  | zero =>
    intro i k hi hk hs
    obtain ⟨k, rfl⟩ : ∃ j, k = j + 1 := ⟨k - 1, by omega⟩
    simp only [samphirelaw16_ReserveFew.l0]
    rw [if_neg (by omega), if_pos trivial]
    rw [List.take_of_length_le (by omega)]
    have h1 : samphireref16_Strings.f k l l = some true := by
      unfold samphireref16_Strings.f
      rw [if_pos rfl]
      exact strings_loop l hl l.length 0 k (by omega) (by omega)
    refine bnd h1 ?_
    rw [if_pos rfl]
    have e : IntKind.u64.wrap (l.length : Int) = (l.length : Int) := by
      have : IntKind.u64.wrap (l.length : Int) = (l.length : Int) % 18446744073709551616 := by simp [IntKind.wrap, IntKind.signed, IntKind.bits]
      rw [this]; omega
    rw [e, if_pos (by omega)]
    exact bnd (awake' (by omega)) rfl
  | succ m ih =>
    intro i k hi hk hs
    obtain ⟨k, rfl⟩ : ∃ j, k = j + 1 := ⟨k - 1, by omega⟩
    have hlt : i < l.length := by omega
    simp only [samphirelaw16_ReserveFew.l0]
    rw [if_pos (by omega), if_pos (by omega), if_pos (by omega), rd_at l i hlt]
    by_cases hbig : 64 < (l[i]).size
    · rw [if_pos (by omega)]
      exact bnd (awake' (by omega)) rfl
    · rw [if_neg (by omega)]
      have hlen : (l.take i).length = i := by rw [List.length_take]; omega
      have hR : reserve_Right.f 20 (i : Int) (l.take i) = some true := by
        unfold reserve_Right.f
        rw [if_pos ⟨by omega, by omega, by omega⟩]
        unfold rightB
        rw [decide_eq_true ⟨by decide, by decide, by omega, by unfold mn; rw [if_neg (by omega), hlen]⟩]
        have : long (l.take i) = false := by
          unfold long
          rw [List.any_eq_false]; intro x hx; have := hs x hx; simp; omega
        rw [this]; rfl
      have hA : reserve_Add.f k 20 (i : Int) (l.take i) l[i] ([] : List Int) 0 = some (20, ((i + 1 : Nat) : Int), l.take (i + 1), [], 0, 0) := by
        unfold reserve_Add.f
        refine bnd hR ?_
        rw [if_pos rfl, if_neg (by omega), if_neg (by omega)]
        have hC : clone_.f (l.take i) = some (l.take i) := by unfold clone_.f; rw [if_pos (by omega)]
        refine bnd hC ?_
        have e1 : IntKind.u64.wrap 20 = 20 := by decide
        rw [e1, if_pos (by omega), if_pos (by omega)]
        have e2 : IntKind.u64.wrap ((i : Int) + 1) = ((i + 1 : Nat) : Int) := by
          have : IntKind.u64.wrap ((i : Int) + 1) = ((i : Int) + 1) % 18446744073709551616 := by simp [IntKind.wrap, IntKind.signed, IntKind.bits]
          rw [this]; omega
        rw [e2, List.take_succ_eq_append_getElem hlt]
      refine bnd hA ?_
      dsimp only
      rw [if_pos rfl, if_pos rfl]
      rw [show wrap64 ((i : Int) + 1) = ((i + 1 : Nat) : Int) by unfold wrap64; omega]
      refine ih (i + 1) k (by omega) (by omega) ?_
      intro x hx
      rw [List.take_succ_eq_append_getElem hlt] at hx
      rcases List.mem_append.1 hx with h | h
      · exact hs x h
      · rw [List.mem_singleton.1 h]; omega
theorem ReserveFew (l : List ByteArray) : samphirelaw16_ReserveFew.f 200 l = some true := by
  unfold samphirelaw16_ReserveFew.f
  by_cases h : 20 < l.length
  · rw [if_pos (by omega)]
    exact bnd (awake' (by omega)) rfl
  · rw [if_neg (by omega)]
    have hN : reserve_New.f 20 = some (20, 0, [], 0) := by decide
    refine bnd hN ?_
    exact few_loop l (by omega) l.length 0 200 (by omega) (by omega) (by simp)
theorem reserveFew_walk (A : Option Addr) (c : Nat) (l : List ByteArray) (W : World) (hr : Kd.C Kd.string W A l.length l) (hc : l.length ≤ c) :
    Calls Try.prog 4 #[.slice A l.length c] W fun e w' => e = .returned (.bool true) ∧ Below W.heap.size W w' :=
  samphirelaw16_ReserveFew.calls 200 A c l true W hr hc (ReserveFew l)
end Go.Proofs.Ythgacimoifbhiaa.Pure
