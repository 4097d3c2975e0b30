/- One round of Merge, over numbers: one of one key each. -/
import Derived.Test.YthgacimoifbhiaaDraw
import Derived.Test.YthgacimoifbhiaaMf
namespace Go.Proofs.Ythgacimoifbhiaa.Pure
open Go.RowKit Go.Proofs.Ythgacimoifbhiaa.Q Go.Proofs.YthgacimoifbhiaaW.PrintWords Go.Proofs.YthgacimoifbhiaaW.PrintLast Go.Proofs.Ythgacimoifbhiaa.Draw
set_option linter.unusedVariables false
theorem width (D : Nat) (h2 : 2 ≤ D) (hD : D < 121) : Lib.bitLen (D - 1) ≠ 0 ∧ Lib.bitLen (D - 1) ≤ 64 ∧ D ≤ 2 ^ Lib.bitLen (D - 1) := by
  have h : ∀ D : Fin 121, 2 ≤ D.val → Lib.bitLen (D.val - 1) ≠ 0 ∧ Lib.bitLen (D.val - 1) ≤ 64 ∧ D.val ≤ 2 ^ Lib.bitLen (D.val - 1) := by decide +kernel
  exact h ⟨D, hD⟩ h2
theorem below1 (D d : Nat) (h2 : 2 ≤ D) (hD : D < 121) (hd : d < D) (k : Nat) (hk : 2 ≤ k) : draw_Below.f k [(d : Int)] 0 ((D : Nat) : Int) = some ((d : Int), [(d : Int)], 1, 0) := by
  obtain ⟨w0, w1, w2⟩ := width D h2 hD
  have hw : Words [(d : Int)] [d] := ⟨rfl, fun x hx => by rw [List.mem_singleton.1 hx]; omega⟩
  have := below D _ (by omega) (by omega) rfl w1 hw 0 (Nat.zero_le _) (by simp) k (by simp; omega)
  rw [if_neg w0, List.drop_zero, pick, Nat.mod_eq_of_lt (by omega), if_pos hd] at this
  exact this
theorem below_one (d : Nat) (hd : d < 121) (k : Nat) (hk : 2 ≤ k) : draw_Below.f k [(d : Int)] 1 1 = some (0, [(d : Int)], 1, 0) := by
  have hw : Words [(d : Int)] [d] := ⟨rfl, fun x hx => by rw [List.mem_singleton.1 hx]; omega⟩
  have := below 1 0 (by omega) (by omega) (by decide) (by omega) hw 1 (by simp) (by simp) k (by simp; omega)
  rw [if_pos rfl] at this
  exact this
theorem drawn1 (D d : Nat) (h2 : 2 ≤ D) (hD : D < 121) (hd : d < D) : drawn 6 [(d : Int)] 0 (D : Int) = some (some ((d : Int), 1)) := by
  unfold drawn
  refine bnd (below1 D d h2 hD hd 6 (by omega)) ?_
  rw [if_pos rfl, if_pos rfl]
theorem drawn_one (d : Nat) (hd : d < 121) : drawn 6 [(d : Int)] 1 1 = some (some (0, 1)) := by
  unfold drawn
  refine bnd (below_one d hd 6 (by omega)) ?_
  rw [if_pos rfl, if_pos rfl]
theorem picked1 (n m d : Nat) (hn : 1 ≤ n) (hn2 : n ≤ 60) (hm : 1 ≤ m) (hm2 : m ≤ 60) (hd : d < n + m) (x y : ByteArray) :
    picked 6 (n : Int) [x] (m : Int) [y] [(d : Int)] 0 = some (decide (d < n), 0, 1, true) := by
  have e : IntKind.u64.wrap ((n : Int) + (m : Int)) = ((n + m : Nat) : Int) := by rw [IntKind.wrap_u64]; omega
  unfold picked
  rw [e]
  refine bnd (drawn1 (n + m) d (by omega) (by omega) hd) ?_
  dsimp only
  by_cases h : d < n
  · rw [if_pos (by omega), decide_eq_true h]
    refine bnd (drawn_one d (by omega)) ?_
    dsimp only
    rw [if_pos (by simp)]
  · rw [if_neg (by omega), decide_eq_false h]
    refine bnd (drawn_one d (by omega)) ?_
    dsimp only
    rw [if_pos (by simp)]
theorem merge1 (n m d : Nat) (hn : 1 ≤ n) (hn2 : n ≤ 60) (hm : 1 ≤ m) (hm2 : m ≤ 60) (hd : d < n + m) (x y : ByteArray) (h1 : reserve_Right.f 1 (n : Int) [x] = some true) (h2 : reserve_Right.f 1 (m : Int) [y] = some true) :
    reserve_Merge.f 1 (n : Int) [x] 1 (m : Int) [y] [(d : Int)] 0 = some (1, ((n + m : Nat) : Int), [if d < n then x else y], [(d : Int)], 1, 0) := by
  have e : IntKind.u64.wrap ((n : Int) + (m : Int)) = ((n + m : Nat) : Int) := by rw [IntKind.wrap_u64]; omega
  unfold reserve_Merge.f
  refine bnd h1 (bnd h2 ?_)
  rw [e, if_pos ⟨rfl, rfl, rfl, by omega⟩, show (min (1 : Int) ((n + m : Nat) : Int)).toNat = 1 by omega]
  by_cases h : d < n
  · refine bnd (x := some ([x], 1)) ?_ (by rw [if_pos h])
    rw [rounds]
    refine bnd (picked1 n m d hn hn2 hm hm2 hd x y) ?_
    rw [decide_eq_true h]
    rfl
  · refine bnd (x := some ([y], 1)) ?_ (by rw [if_neg h])
    rw [rounds]
    refine bnd (picked1 n m d hn hn2 hm hm2 hd x y) ?_
    rw [decide_eq_false h]
    rfl
end Go.Proofs.Ythgacimoifbhiaa.Pure
