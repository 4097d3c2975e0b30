/- ReserveHolds over plain lists; and the law's walk. -/
import Derived.Test.YthgacimoifbhiaaHoldsO
import Derived.Test.YthgacimoifbhiaaPureReserveNone
namespace Go.Proofs.Ythgacimoifbhiaa.Pure
open Go.RowKit Go.Proofs.Ythgacimoifbhiaa.Q Go.Proofs.YthgacimoifbhiaaW.PrintWords Go.Proofs.YthgacimoifbhiaaW.PrintLast Go.Proofs.Ythgacimoifbhiaa.Draw
set_option linter.unusedVariables false
/-- A sample behind N keys (all): right, and a part of what came. -/
structure Sm (n N : Nat) (X all : List ByteArray) : Prop where
  len : X.length = min n N
  sub : ∀ p : ByteArray → Bool, X.countP p ≤ all.countP p
  key : ∀ x ∈ X, x.size ≤ 64
theorem Sm.right {n N : Nat} {X all : List ByteArray} (h : Sm n N X all) (h1 : 1 ≤ n) (h2 : n ≤ 1024) (hN : N ≤ 1000) : reserve_Right.f (n : Int) (N : Int) X = some true := by
  have hl := h.len
  unfold reserve_Right.f
  rw [if_pos ⟨by omega, by omega, by omega⟩]
  unfold rightB
  have hm : mn (n : Int) (N : Int) = (X.length : Int) := by unfold mn; split <;> omega
  rw [decide_eq_true ⟨by omega, by omega, by omega, hm.symm⟩]
  have : long X = false := by
    unfold long
    rw [List.any_eq_false]; intro x hx; have := h.key x hx; simp; omega
  rw [this]; rfl
theorem Sm.add {n N : Nat} {X all : List ByteArray} (h : Sm n N X all) (h1 : 1 ≤ n) (h2 : n ≤ 10) (hN : N ≤ 60) {x : ByteArray} (hx : x.size ≤ 64) {l : List Int} {xs : List Nat} (hw : Words l xs) (hl : l.length ≤ 200) (a : Nat) (ha : a ≤ l.length) :
    reserve_Add.f 2000 (n : Int) (N : Int) X x l (a : Int) = some ((n : Int), (N : Int), X, l, (a : Int), 8) ∨
    ∃ (X' : List ByteArray) (b : Nat), reserve_Add.f 2000 (n : Int) (N : Int) X x l (a : Int) = some ((n : Int), ((N + 1 : Nat) : Int), X', l, (b : Int), 0) ∧ b ≤ l.length ∧ Sm n (N + 1) X' (all ++ [x]) := by
  have hR := h.right h1 (by omega) (by omega)
  have hl2 := h.len
  have hC : clone_.f X = some X := by unfold clone_.f; rw [if_pos (by omega)]
  have e1 : IntKind.u64.wrap ((N : Int) + 1) = ((N + 1 : Nat) : Int) := by rw [wrapE]; omega
  have e2 : IntKind.u64.wrap (n : Int) = (n : Int) := by rw [wrapE]; omega
  have hlen := hw.length
  by_cases hlt : N < n
  · unfold reserve_Add.f
    rw [e1, e2]
    refine .inr ⟨X ++ [x], a, bnd hR (ift rfl (iff_ (by omega) (iff_ (by omega) (bnd hC (ift (by omega) (ift (by omega) rfl)))))), ha, ⟨by simp; omega, ?_, ?_⟩⟩
    · intro p
      rw [List.countP_append, List.countP_append]
      exact Nat.add_le_add_right (h.sub p) _
    · intro y hy
      rcases List.mem_append.1 hy with g | g
      · exact h.key y g
      · rw [List.mem_singleton.1 g]; exact hx
  · have hb := below (N + 1) _ (by omega) (by omega) rfl (bit_le ⟨N + 1, by omega⟩) hw a (by omega) (by omega) 2000 (by omega)
    have step : ∀ (i b : Nat), draw_Below.f 2000 l (a : Int) ((N + 1 : Nat) : Int) = some ((i : Int), l, (b : Int), 0) → b ≤ l.length →
        ∃ (X' : List ByteArray) (b : Nat), reserve_Add.f 2000 (n : Int) (N : Int) X x l (a : Int) = some ((n : Int), ((N + 1 : Nat) : Int), X', l, (b : Int), 0) ∧ b ≤ l.length ∧ Sm n (N + 1) X' (all ++ [x]) := by
      intro i b hd hbl
      unfold reserve_Add.f
      rw [e1, e2]
      by_cases hi : i < n
      · refine ⟨X.set i x, b, bnd hR (ift rfl (iff_ (by omega) (iff_ (by omega) (bnd hC (iff_ (by omega) (bnd hd (ift rfl (ift (by show (i : Int) < _; omega) (ift (by show 0 ≤ (i : Int); omega) (ift (by show (i : Int) < _; omega) (by dsimp only; rw [Int.toNat_natCast]))))))))))), hbl, ⟨by rw [List.length_set]; omega, ?_, ?_⟩⟩
        · intro p
          have g := (set_perm X i x (by omega)).countP_eq (p := p)
          have g2 := h.sub p
          rw [List.countP_cons, List.countP_cons] at g
          rw [List.countP_append, List.countP_cons, List.countP_nil]
          omega
        · intro y hy
          rcases List.mem_or_eq_of_mem_set hy with g | g
          · exact h.key y g
          · rw [g]; exact hx
      · refine ⟨X, b, bnd hR (ift rfl (iff_ (by omega) (iff_ (by omega) (bnd hC (iff_ (by omega) (bnd hd (ift rfl (iff_ (by show ¬ (i : Int) < _; omega) rfl)))))))), hbl, ⟨by omega, ?_, h.key⟩⟩
        intro p
        have g2 := h.sub p
        rw [List.countP_append]
        omega
    by_cases hm : Lib.bitLen (N + 1 - 1) = 0
    · rw [if_pos hm] at hb
      exact .inr (step 0 a (hb.trans rfl) ha)
    · rw [if_neg hm] at hb
      rcases hp : pick (2 ^ Lib.bitLen (N + 1 - 1)) (N + 1) (xs.drop a) 0 with _ | ⟨q, j⟩
      · rw [hp] at hb
        unfold reserve_Add.f
        rw [e1, e2]
        exact .inl (bnd hR (ift rfl (iff_ (by omega) (iff_ (by omega) (bnd hC (iff_ (by omega) (bnd hb (iff_ (show ¬ (8 : Int) = 0 by decide) rfl))))))))
      · rw [hp] at hb
        obtain ⟨p1, p2, _⟩ := pick_lt _ _ _ _ _ _ hp
        rw [List.length_drop] at p2
        exact .inr (step q (a + j) (hb.trans rfl) (by omega))
theorem rounds_ab {l : List Int} {xs : List Nat} (h : Words l xs) (hl : l.length ≤ 200) (m : Nat) : ∀ (nx ny a : Nat) (X Y items : List ByteArray), m ≤ nx + ny → min m nx ≤ X.length → min m ny ≤ Y.length → X.length ≤ 1000 → Y.length ≤ 1000 → nx + ny ≤ 1000 → a ≤ l.length →
    rounds (l.length + 5) l m (nx : Int) X (ny : Int) Y (a : Int) items = some none ∨ ∃ (r : List ByteArray) (b : Nat), rounds (l.length + 5) l m (nx : Int) X (ny : Int) Y (a : Int) items = some (some (items ++ r, (b : Int))) ∧ r.length = m ∧ (∀ p : ByteArray → Bool, r.countP p ≤ X.countP p + Y.countP p) ∧ (∀ x ∈ r, x ∈ X ∨ x ∈ Y) := by
  induction m with
  | zero =>
    intro nx ny a X Y items _ _ _ _ _ _ _
    exact .inr ⟨[], a, by rw [List.append_nil]; rfl, rfl, fun p => Nat.zero_le _, fun x hx => by cases hx⟩
  | succ m ih =>
    intro nx ny a X Y items hm hX hY lX lY hn ha
    have e1 : IntKind.u64.wrap ((nx : Int) + (ny : Int)) = ((nx + ny : Nat) : Int) := by rw [wrapE]; omega
    rcases drawn_eq h hl (nx + ny) a (by omega) (by omega) ha with d1 | ⟨j, b1, d1, hj, hb1⟩
    · refine .inl (rounds_no (t := (true, 0, (a : Int), false)) ?_ rfl)
      unfold picked
      rw [e1]
      exact bnd d1 rfl
    · by_cases hjx : j < nx
      · have e2 : IntKind.u64.wrap ((nx : Int) - 1) = ((nx - 1 : Nat) : Int) := by rw [wrapE]; omega
        rcases drawn_eq h hl X.length b1 (by omega) (by omega) hb1 with d2 | ⟨i, b, d2, hi, hb⟩
        · refine .inl (rounds_no (t := (true, 0, (b1 : Int), false)) ?_ rfl)
          unfold picked
          rw [e1]
          exact bnd d1 (ift (by omega) (bnd d2 rfl))
        · have hp : picked (l.length + 5) (nx : Int) X (ny : Int) Y l (a : Int) = some (true, (i : Int), (b : Int), true) := by
            unfold picked
            rw [e1]
            exact bnd d1 (ift (by omega) (bnd d2 (ift ⟨by omega, by omega⟩ rfl)))
          have hr := rounds_yes (F := l.length + 5) (m := m) (items := items) hp rfl
          have ha2 : after (nx : Int) X (ny : Int) Y (true, (i : Int), (b : Int), true) = (((nx - 1 : Nat) : Int), Q.leftOf X (i : Int), (ny : Int), Y, rdOf ByteArray.empty X (i : Int)) := by
            unfold after; rw [if_pos rfl, e2]
          rw [ha2] at hr
          have hq := left_perm X i hi
          have hll := leftOf_length X (i : Int)
          rw [hr]
          rcases ih (nx - 1) ny b (Q.leftOf X (i : Int)) Y (items ++ [rdOf ByteArray.empty X (i : Int)]) (by omega) (by omega) (by omega) (by omega) lY (by omega) hb with g | ⟨r, b2, g, g1, g2, g3⟩
          · exact .inl g
          · refine .inr ⟨rdOf ByteArray.empty X (i : Int) :: r, b2, by rw [g]; simp, by simp [g1], ?_, ?_⟩
            · intro p
              have q1 := hq.countP_eq (p := p)
              have q2 := g2 p
              rw [List.countP_cons] at q1 ⊢
              omega
            · intro x hx
              rcases List.mem_cons.1 hx with e | e
              · exact .inl (hq.mem_iff.1 (by rw [e]; exact List.mem_cons_self))
              · exact (g3 x e).imp (fun k => hq.mem_iff.1 (List.mem_cons_of_mem _ k)) id
      · have e2 : IntKind.u64.wrap ((ny : Int) - 1) = ((ny - 1 : Nat) : Int) := by rw [wrapE]; omega
        rcases drawn_eq h hl Y.length b1 (by omega) (by omega) hb1 with d2 | ⟨i, b, d2, hi, hb⟩
        · refine .inl (rounds_no (t := (false, 0, (b1 : Int), false)) ?_ rfl)
          unfold picked
          rw [e1]
          exact bnd d1 (iff_ (by omega) (bnd d2 rfl))
        · have hp : picked (l.length + 5) (nx : Int) X (ny : Int) Y l (a : Int) = some (false, (i : Int), (b : Int), true) := by
            unfold picked
            rw [e1]
            exact bnd d1 (iff_ (by omega) (bnd d2 (ift ⟨by omega, by omega⟩ rfl)))
          have hr := rounds_yes (F := l.length + 5) (m := m) (items := items) hp rfl
          have ha2 : after (nx : Int) X (ny : Int) Y (false, (i : Int), (b : Int), true) = ((nx : Int), X, ((ny - 1 : Nat) : Int), Q.leftOf Y (i : Int), rdOf ByteArray.empty Y (i : Int)) := by
            unfold after; rw [if_neg (show ¬ (false = true) by decide), e2]
          rw [ha2] at hr
          have hq := left_perm Y i hi
          have hll := leftOf_length Y (i : Int)
          rw [hr]
          rcases ih nx (ny - 1) b X (Q.leftOf Y (i : Int)) (items ++ [rdOf ByteArray.empty Y (i : Int)]) (by omega) (by omega) (by omega) lX (by omega) (by omega) hb with g | ⟨r, b2, g, g1, g2, g3⟩
          · exact .inl g
          · refine .inr ⟨rdOf ByteArray.empty Y (i : Int) :: r, b2, by rw [g]; simp, by simp [g1], ?_, ?_⟩
            · intro p
              have q1 := hq.countP_eq (p := p)
              have q2 := g2 p
              rw [List.countP_cons] at q1 ⊢
              omega
            · intro x hx
              rcases List.mem_cons.1 hx with e | e
              · exact .inr (hq.mem_iff.1 (by rw [e]; exact List.mem_cons_self))
              · exact (g3 x e).imp id (fun k => hq.mem_iff.1 (List.mem_cons_of_mem _ k))
end Go.Proofs.Ythgacimoifbhiaa.Pure
