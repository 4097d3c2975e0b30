/- WideLaws, over plain numbers: sums and products go in any order; a product by a sum is the sum of products. -/
import Derived.Test.YtbpcehbcbcojiaaPureB
import Derived.Test.YtbpcehbcbcojiaaQx6
namespace Go.Proofs.Ytbpcehbcbcojiaa.Pure
open Go.RowKit Go.Proofs.Ytbpcehbcbcojiaa.Q Go.Proofs.YtbpcehbcbcojiaaW.PrintWords Go.Proofs.YtbpcehbcbcojiaaW.PrintLast Dec
theorem sized_form (x : Nat) : ∃ y f, y < M128 ∧ sized x = (hi y, lo y, f) ∧ (x < M128 → y = x ∧ f = true) := by
  by_cases h : x < M128
  · exact ⟨x, true, h, sized_lt h, fun _ => ⟨rfl, rfl⟩⟩
  · exact ⟨0, false, by decide, sized_ge h, fun h' => absurd h' h⟩
theorem laws_j1_true (k : Nat) (x18 x20 x22 : Bool) (a b c d : Int) : WL.j1 (k + 1) x18 x20 x22 true a b c d = some true := by
  simp only [WL.j1]
  refine D.ift trivial ?_
  exact D.bnd awake rfl
theorem laws_j0 (n m c s : Nat) (o1 : Bool) (hn : n < M128) (hm : m < M128) (hc : c < M128) (hs : s < M128) (ho : o1 = true → s = n + m) (k : Nat) :
    WL.j0 (k + 1 + 1) o1 false (hi n) (lo n) (hi m) (lo m) (hi c) (lo c) (hi s) (lo s) = some true := by
  simp only [WL.j0]
  refine D.iff_ (by decide) ?_
  obtain ⟨p, o5, hp, ep, kp⟩ := sized_form (s * c)
  obtain ⟨q, o6, hq, eq, kq⟩ := sized_form (n * c)
  obtain ⟨r, o7, hr, er, kr⟩ := sized_form (m * c)
  obtain ⟨t, o8, ht, et, kt⟩ := sized_form (q + r)
  refine D.bnd (mul_f s c hs hc) ?_
  refine D.bnd (mul_f n c hn hc) ?_
  refine D.bnd (mul_f m c hm hc) ?_
  rw [ep, eq, er]
  dsimp only
  refine D.bnd (add_f q r hq hr) ?_
  rw [et]
  dsimp only
  cases o1 with
  | false =>
    refine D.iff_ (by decide) ?_
    exact laws_j1_true k _ _ _ _ _ _ _
  | true =>
    refine D.ift rfl ?_
    have hsum := ho rfl
    cases o5 with
    | false => exact laws_j1_true k _ _ _ _ _ _ _
    | true =>
      have hlt : s * c < M128 := by
        rcases Nat.lt_or_ge (s * c) M128 with h | h
        · exact h
        · rw [sized_ge (by omega)] at ep
          simp at ep
      have e1 : n * c + m * c = s * c := by rw [hsum, Nat.add_mul]
      obtain ⟨rfl, _⟩ := kp hlt
      obtain ⟨rfl, rfl⟩ := kq (by omega)
      obtain ⟨rfl, rfl⟩ := kr (by omega)
      obtain ⟨rfl, rfl⟩ := kt (by omega)
      simp only [WL.j1]
      refine D.iff_ (by decide) ?_
      refine D.ift trivial (D.ift trivial (D.ift trivial ?_))
      rw [e1]
      refine D.ift (eqb_self _) ?_
      exact D.bnd awake rfl
theorem WideLaws (a0 a1 b0 b1 c0 c1 : Int) (h0 : (Lit.int .u64 a0).wf = true) (h1 : (Lit.int .u64 a1).wf = true) (h2 : (Lit.int .u64 b0).wf = true) (h3 : (Lit.int .u64 b1).wf = true) (h4 : (Lit.int .u64 c0).wf = true) (h5 : (Lit.int .u64 c1).wf = true) :
    WL.f (0 + 1 + 1) a0 a1 b0 b1 c0 c1 = some true := by
  obtain ⟨n, hn, rfl, rfl⟩ := arg h0 h1
  obtain ⟨m, hm, rfl, rfl⟩ := arg h2 h3
  obtain ⟨c, hc, rfl, rfl⟩ := arg h4 h5
  unfold WL.f
  obtain ⟨s, o1, hs, es, ks⟩ := sized_form (n + m)
  obtain ⟨p, o3, hp, ep, kp⟩ := sized_form (n * m)
  have a2 := add_f m n hm hn
  have m2 := mul_f m n hm hn
  rw [Nat.add_comm, es] at a2
  rw [Nat.mul_comm, ep] at m2
  have a1 := add_f n m hn hm
  have m1 := mul_f n m hn hm
  rw [es] at a1
  rw [ep] at m1
  refine D.bnd a1 (D.bnd a2 (D.bnd m1 (D.bnd m2 ?_)))
  dsimp only
  refine D.iff_ (by rw [ne_self]; decide) ?_
  refine D.iff_ (by simp) ?_
  refine D.iff_ (by rw [ne_self]; decide) ?_
  rw [show (o3 != o3) = false by simp]
  refine laws_j0 n m c s o1 hn hm hc hs ?_ 0
  intro ho
  subst ho
  by_cases h : n + m < M128
  · exact (ks h).1
  · rw [sized_ge h] at es; simp at es
theorem wideLaws_walk (a0 a1 b0 b1 c0 c1 : Int) (W : World) (h0 : (Lit.int .u64 a0).wf = true) (h1 : (Lit.int .u64 a1).wf = true) (h2 : (Lit.int .u64 b0).wf = true) (h3 : (Lit.int .u64 b1).wf = true) (h4 : (Lit.int .u64 c0).wf = true) (h5 : (Lit.int .u64 c1).wf = true) :
    Calls Try.prog 4 #[.agg #[.int .u64 a0, .int .u64 a1], .agg #[.int .u64 b0, .int .u64 b1], .agg #[.int .u64 c0, .int .u64 c1]] W fun e w' => e = .returned (.bool true) ∧ Below W.heap.size W w' :=
  WL.calls _ a0 a1 b0 b1 c0 c1 true W (WideLaws a0 a1 b0 b1 c0 c1 h0 h1 h2 h3 h4 h5)
end Go.Proofs.Ytbpcehbcbcojiaa.Pure
