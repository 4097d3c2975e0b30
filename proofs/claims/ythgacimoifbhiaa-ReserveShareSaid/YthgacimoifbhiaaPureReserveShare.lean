/- Of all draws below both Ns as many take one of the first reservoir as its N says, over numbers and lists; and the law's walk. -/
import Derived.Test.YthgacimoifbhiaaSx4
import Derived.Test.YthgacimoifbhiaaPureSh
namespace Go.Proofs.Ythgacimoifbhiaa.Pure
open Go.RowKit Go.Proofs.Ythgacimoifbhiaa.Q Go.Proofs.YthgacimoifbhiaaW.PrintWords Go.Proofs.YthgacimoifbhiaaW.PrintLast Go.Proofs.Ythgacimoifbhiaa.Draw
set_option linter.unusedVariables false
theorem awake0 : samphirelaw16_awake.f 30 = some true := by decide +kernel
theorem awake (k : Nat) : samphirelaw16_awake.f (30 + k) = some true := more_rounds samphirelaw16_awake.mono 30 k true awake0
theorem awake' {k : Nat} (h : 30 ≤ k) : samphirelaw16_awake.f k = some true := by
  obtain ⟨j, rfl⟩ : ∃ j, k = 30 + j := ⟨k - 30, by omega⟩
  exact awake j
theorem rightA : ∀ n : Fin 61, 1 ≤ n.val → reserve_Right.f 1 (n.val : Int) [(⟨#[97]⟩ : ByteArray)] = some true := by decide +kernel
theorem rightB_ : ∀ n : Fin 61, 1 ≤ n.val → reserve_Right.f 1 (n.val : Int) [(⟨#[98]⟩ : ByteArray)] = some true := by decide +kernel
theorem share_loop (a b : Nat) (ha : 1 ≤ a) (ha2 : a ≤ 60) (hb : 1 ≤ b) (hb2 : b ≤ 60) (m : Nat) : ∀ (d k : Nat), d + m = a + b → 2 * m + 60 < k →
    samphirelaw16_ReserveShare.l0 k ((min d a : Nat) : Int) ((a + b : Nat) : Int) (d : Int) 1 (a : Int) [(⟨#[97]⟩ : ByteArray)] 1 (b : Int) [(⟨#[98]⟩ : ByteArray)] = some true := by
  induction m with
  | zero =>
    intro d k hi hk
    obtain ⟨k, rfl⟩ : ∃ j, k = j + 1 := ⟨k - 1, by omega⟩
    rw [samphirelaw16_ReserveShare.l0]
    refine iff_ (by omega) (ift (by omega) ?_)
    exact bnd (awake' (by omega)) rfl
  | succ m ih =>
    intro d k hi hk
    obtain ⟨k, rfl⟩ : ∃ j, k = j + 2 := ⟨k - 2, by omega⟩
    have e : IntKind.u64.wrap ((a : Int) + (b : Int)) = ((a + b : Nat) : Int) := by rw [IntKind.wrap_u64]; omega
    show samphirelaw16_ReserveShare.l0 ((k + 1) + 1) _ _ _ _ _ _ _ _ _ = _
    rw [samphirelaw16_ReserveShare.l0]
    refine ift (by omega) (bnd (merge1 a b d ha ha2 hb hb2 (by omega) _ _ (rightA ⟨a, by omega⟩ ha) (rightB_ ⟨b, by omega⟩ hb)) ?_)
    dsimp only
    rw [e]
    refine ift rfl (ift (by simp) (ift rfl ?_))
    rw [samphirelaw16_ReserveShare.j1]
    refine iff_ (by simp) (ift (by simp) ?_)
    have ed : IntKind.u64.wrap ((d : Int) + 1) = ((d + 1 : Nat) : Int) := by rw [IntKind.wrap_u64]; omega
    rw [ed]
    have ih := ih (d + 1) k (by omega) (by omega)
    by_cases hc : d < a
    · rw [if_pos hc]
      refine ift (by decide +kernel) ?_
      have em : IntKind.u64.wrap (((min d a : Nat) : Int) + 1) = ((min (d + 1) a : Nat) : Int) := by rw [IntKind.wrap_u64]; omega
      rw [em]; exact ih
    · rw [if_neg hc]
      refine iff_ (by decide +kernel) ?_
      have em : min (d + 1) a = min d a := by omega
      rw [em] at ih; exact ih
theorem reserveShare (a0 a1 : Int) (hw0 : (Lit.int .u8 a0).wf = true) (hw1 : (Lit.int .u8 a1).wf = true) : samphirelaw16_ReserveShare.f 400 a0 a1 = some true := by
  have h0 : 0 ≤ a0 ∧ a0 < 256 := by simp [Lit.wf, IntKind.min, IntKind.max, IntKind.signed, IntKind.bits] at hw0; omega
  have h1 : 0 ≤ a1 ∧ a1 < 256 := by simp [Lit.wf, IntKind.min, IntKind.max, IntKind.signed, IntKind.bits] at hw1; omega
  obtain ⟨a, rfl⟩ : ∃ a : Nat, a0 = (a : Int) := ⟨a0.toNat, by omega⟩
  obtain ⟨b, rfl⟩ : ∃ b : Nat, a1 = (b : Int) := ⟨a1.toNat, by omega⟩
  have e1 : ∀ a : Fin 256, IntKind.u64.wrap (1 + (IntKind.u64.wrap (Int.tmod (a.val : Int) 60))) = ((1 + a.val % 60 : Nat) : Int) := by decide +kernel
  have e0 := e1 ⟨a, by omega⟩
  have e1 := e1 ⟨b, by omega⟩
  simp only at e0 e1
  unfold samphirelaw16_ReserveShare.f
  rw [e0, e1]
  have ha1 : 1 ≤ 1 + a % 60 := by omega
  have ha2 : 1 + a % 60 ≤ 60 := by omega
  have hb1 : 1 ≤ 1 + b % 60 := by omega
  have hb2 : 1 + b % 60 ≤ 60 := by omega
  generalize 1 + a % 60 = a at *
  generalize 1 + b % 60 = b at *
  have e : IntKind.u64.wrap ((a : Int) + (b : Int)) = ((a + b : Nat) : Int) := by rw [IntKind.wrap_u64]; omega
  rw [e]
  have := share_loop a b ha1 ha2 hb1 hb2 (a + b) 0 400 (by omega) (by omega)
  rw [show min 0 a = 0 by omega] at this
  exact this
theorem reserveShare_walk (a0 a1 : Int) (w : World) (hw0 : (Lit.int .u8 a0).wf = true) (hw1 : (Lit.int .u8 a1).wf = true) :
    Calls Try.prog 8 #[.int .u8 a0, .int .u8 a1] w fun e w' => e = .returned (.bool true) ∧ Below w.heap.size w w' :=
  samphirelaw16_ReserveShare.calls 400 a0 a1 true w (reserveShare a0 a1 hw0 hw1)
end Go.Proofs.Ythgacimoifbhiaa.Pure
