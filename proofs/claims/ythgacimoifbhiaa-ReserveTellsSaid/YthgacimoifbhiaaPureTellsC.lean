import Derived.Test.YthgacimoifbhiaaPureTellsB
import Derived.Test.YthgacimoifbhiaaTellsP
namespace Go.Proofs.Ythgacimoifbhiaa.Pure
open Go.RowKit Go.Proofs.Ythgacimoifbhiaa Go.Proofs.Ythgacimoifbhiaa.Q Go.Proofs.Ythgacimoifbhiaa.DrawP Go.Proofs.YthgacimoifbhiaaW.PrintWords Go.Proofs.YthgacimoifbhiaaW.PrintLast
set_option linter.unusedVariables false
set_option linter.unusedSimpArgs false
theorem right_eq (K N : Int) (X : List ByteArray) (hX : X.length ≤ 60) (h0 : 0 ≤ N) (h1 : N < 18446744073709551616) : reserve_Right.f K N X = some (rightB K N X) := by
 unfold reserve_Right.f; exact if_pos ⟨h0, h1, by omega⟩
theorem add_two (kf : Nat) (hkf : 20000 ≤ kf) (K N : Int) (X : List ByteArray) (hX : X.length ≤ 60) (h0 : 0 ≤ N) (h1 : N < 18446744073709551616) (hK : -9223372036854775808 ≤ K ∧ K ≤ 9223372036854775807) (key : ByteArray) (l : List Int) (xs : List Nat) (hw : Words l xs) (hl : l.length ≤ 60) (a : Int) :
  ∃ r1 r2 r3 r5 r6, reserve_Add.f kf K N X key l a = some (r1, r2, r3, l, r5, r6) ∧ r3.length ≤ 61 ∧ ∀ (A0 : Option Addr) (c0 : Nat) (A : Option Addr) (c : Nat) (P0 P2 : Nat → Prop) (w1 : World), Kd.V Kd.string 9 w1 w1.heap.size P0 (.slice A0 X.length c0) X → Kd.V (Kd.int .u64) 23 w1 w1.heap.size P2 (.slice A l.length c) l → Calls Try.prog 14 (raddArgs K N A0 c0 X key A c l a) w1 (RPost w1 P0 P2 r1 r2 r3 l r5 r6) := by
 have hlen := hw.length
 have hr := right_eq K N X hX h0 h1
 have hr2 := right_alike K N X (by omega) h0 h1 hK kf (by omega)
 cases hb : rightB K N X with
 | false =>
  rw [hb] at hr hr2
  exact ⟨K, N, X, a, 1, by unfold reserve_Add.f; exact bnd hr (iff_ (by decide) rfl), by omega, fun A0 c0 A c P0 P2 w1 g0 g2 => radd_no kf 1 K N P0 A0 c0 X key P2 A c l a w1 g0 g2 (.inl ⟨hr2, rfl⟩)⟩
 | true =>
  rw [hb] at hr hr2
  obtain ⟨k1, k2, _, n2, _, hmn⟩ := right_facts hr
  by_cases hk : 64 < key.size
  ·
   exact ⟨K, N, X, a, 5, by unfold reserve_Add.f; exact bnd hr (ift rfl (ift (by omega) rfl)), by omega, fun A0 c0 A c P0 P2 w1 g0 g2 => radd_no kf 5 K N P0 A0 c0 X key P2 A c l a w1 g0 g2 (.inr ⟨hr2, .inl ⟨hk, rfl⟩⟩)⟩
  by_cases hN : N = 4611686018427387904
  ·
   exact ⟨K, N, X, a, 12, by unfold reserve_Add.f; exact bnd hr (ift rfl (iff_ (by omega) (ift hN rfl))), by omega, fun A0 c0 A c P0 P2 w1 g0 g2 => radd_no kf 12 K N P0 A0 c0 X key P2 A c l a w1 g0 g2 (.inr ⟨hr2, .inr ⟨by omega, hN, rfl⟩⟩)⟩
  have hcl : clone_.f X = some X := by unfold clone_.f; exact if_pos (by omega)
  have hwK : IntKind.u64.wrap K = K := by rw [wrapE]; omega
  by_cases hNK : N < K
  ·
   exact ⟨K, IntKind.u64.wrap (N + 1), X ++ [key], a, 0, by unfold reserve_Add.f; exact bnd hr (ift rfl (iff_ (by omega) (iff_ hN (bnd hcl (ift (by rw [hwK]; exact hNK) (ift (by omega) rfl)))))), by rw [List.length_append, List.length_singleton]; omega,
    fun A0 c0 A c P0 P2 w1 g0 g2 => radd_ok kf K N P0 A0 c0 X key P2 A c l a _ _ _ _ w1 g0 g2 hr2 (by omega) hN (by omega) k1 k2 (.inl ⟨hNK, rfl, rfl, rfl, rfl⟩)⟩
  ·
   obtain ⟨n, hn⟩ : ∃ n : Nat, N + 1 = n := ⟨(N + 1).toNat, by omega⟩
   have hwN : IntKind.u64.wrap (N + 1) = (n : Int) := by rw [hn, wrapE]; omega
   obtain ⟨v, p, e, q1, q2, q3⟩ := partA kf n (by omega) l xs hw (by omega) a hkf
   have q4 := below_alike hw (by omega) kf kf (Nat.le_refl _) hkf a n v p e (by omega) (by omega) q1
   rw [← hwN] at q1 q4
   by_cases he : e = 0
   ·
    subst he
    have hlK : (X.length : Int) = K := by rw [hmn]; unfold mn; split <;> omega
    by_cases hvK : (v : Int) < K
    ·
     exact ⟨K, IntKind.u64.wrap (N + 1), X.set ((v : Int)).toNat key, p, 0, by unfold reserve_Add.f; exact bnd hr (ift rfl (iff_ (by omega) (iff_ hN (bnd hcl (iff_ (by rw [hwK]; omega) (bnd q1 (ift rfl (ift (by show (v : Int) < _; rw [hwK]; exact hvK) (ift (by show (0 : Int) ≤ (v : Int); omega) (ift (by show (v : Int) < _; omega) rfl)))))))))), by rw [List.length_set]; omega,
      fun A0 c0 A c P0 P2 w1 g0 g2 => radd_ok kf K N P0 A0 c0 X key P2 A c l a _ _ _ _ w1 g0 g2 hr2 (by omega) hN (by omega) k1 k2 (.inr ⟨hNK, v, p, 0, q4, .inr ⟨rfl, by omega, rfl, rfl, rfl, .inl ⟨hvK, by omega, rfl⟩⟩⟩)⟩
    ·
     exact ⟨K, IntKind.u64.wrap (N + 1), X, p, 0, by unfold reserve_Add.f; exact bnd hr (ift rfl (iff_ (by omega) (iff_ hN (bnd hcl (iff_ (by rw [hwK]; omega) (bnd q1 (ift rfl (iff_ (by show ¬ (v : Int) < _; rw [hwK]; exact hvK) rfl)))))))), by omega,
      fun A0 c0 A c P0 P2 w1 g0 g2 => radd_ok kf K N P0 A0 c0 X key P2 A c l a _ _ _ _ w1 g0 g2 hr2 (by omega) hN (by omega) k1 k2 (.inr ⟨hNK, v, p, 0, q4, .inr ⟨rfl, by omega, rfl, rfl, rfl, .inr ⟨hvK, rfl⟩⟩⟩)⟩
   ·
    exact ⟨K, N, X, a, e, by unfold reserve_Add.f; exact bnd hr (ift rfl (iff_ (by omega) (iff_ hN (bnd hcl (iff_ (by rw [hwK]; omega) (bnd q1 (iff_ (show ¬ e = 0 from he) rfl))))))), by omega,
     fun A0 c0 A c P0 P2 w1 g0 g2 => radd_ok kf K N P0 A0 c0 X key P2 A c l a _ _ _ _ w1 g0 g2 hr2 (by omega) hN (by omega) k1 k2 (.inr ⟨hNK, v, p, e, q4, .inl ⟨he, rfl, rfl, rfl, rfl⟩⟩)⟩
end Go.Proofs.Ythgacimoifbhiaa.Pure
