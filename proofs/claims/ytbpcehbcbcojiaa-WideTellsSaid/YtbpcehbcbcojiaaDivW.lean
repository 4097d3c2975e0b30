import Derived.Test.YtbpcehbcbcojiaaLong
import Derived.Test.YtbpcehbcbcojiaaDivL
import Derived.Deep.RegionWith
import Derived.WalkSpells
import Derived.WalkLawsBesides
namespace Go.Proofs.Ytbpcehbcbcojiaa
open Go.RowKit
set_option linter.unusedVariables false
set_option linter.unusedSimpArgs false
theorem bdn {a b : World} (h : Below a.heap.size a b) (n : Nat) : Below a.heap.size a (b.drewN n) := ⟨h.os, h.tape, h.output, h.size, h.block⟩
theorem div64_any (hi lo y : Nat) (hy : hi < y) (hy2 : y < 18446744073709551616) (hl : lo < 18446744073709551616) (w : World) :
  Calls Try.prog 32 #[.int .u64 (hi : Int), .int .u64 (lo : Int), .int .u64 (y : Int)] w fun e w' => e = .returned (.tuple #[.int .u64 (((hi * 18446744073709551616 + lo) / y : Nat) : Int), .int .u64 (((hi * 18446744073709551616 + lo) % y : Nat) : Int)]) ∧ ∃ n, w' = w.drewN n := by
 obtain ⟨k, hk⟩ := D.div64 hi lo y hy hy2 hl
 exact (D.bits_Div64.calls k hi lo y _ _ w hk).mono fun e w' ⟨h, n, hn⟩ => ⟨h, n, hn⟩
set_option maxRecDepth 100000 in
set_option maxHeartbeats 2000000 in
theorem div_zero (ah al : Nat) (w : World) :
  Calls Try.prog 20 #[U ah al, U 0 0] w fun e w' => e = .returned (.tuple #[U 0 0, U 0 0, .bool false]) ∧ Below w.heap.size w w' := by
 go_enter Try.func20, Try.ntmps20
 go_wp2
 refine bodyPost_ret (v := .tuple #[U 0 0, U 0 0, .bool false]) (by simp [results, Try.results20, go_sem]) rfl ⟨rfl, ?_⟩
 exact ba (ba (ba (ba (Below.refl _ _) _) _) _) _
theorem div_long (ah al bh bl : Nat) (h1 : W64 ah) (h2 : W64 al) (h3 : W64 bh) (h4 : W64 bl) (hB : 0 < bh) (w : World) :
  Calls Try.prog 20 #[U ah al, U bh bl] w fun e w' => e = .returned (.tuple #[U (HI (V ah al / V bh bl)) (LO (V ah al / V bh bl)), U (HI (V ah al % V bh bl)) (LO (V ah al % V bh bl)), .bool true]) ∧ Below w.heap.size w w' :=
 D.div_long.calls 400 ah al bh bl _ _ _ _ w (by omega) (long_f ah al bh bl h1 h2 h3 h4 (by unfold V; omega))
theorem lo_hi_div (ah al y : Nat) (h2 : W64 al) (hy : 0 < y) (hy2 : W64 y) : HI (V ah al / y) = ah / y ∧ LO (V ah al / y) = (ah % y * 18446744073709551616 + al) / y ∧ V ah al % y = (ah % y * 18446744073709551616 + al) % y := by
 have e : V ah al = (ah % y * 18446744073709551616 + al) + y * (ah / y * 18446744073709551616) := by
  have := Nat.div_add_mod ah y
  unfold V
  rw [← Nat.mul_assoc]
  generalize y * (ah / y) = z at *
  omega
 have hm := Nat.mod_lt ah hy
 have hq : (ah % y * 18446744073709551616 + al) / y < 18446744073709551616 := by
  rw [Nat.div_lt_iff_lt_mul hy]
  have : (ah % y + 1) * 18446744073709551616 ≤ y * 18446744073709551616 := Nat.mul_le_mul_right _ hm
  rw [Nat.mul_comm 18446744073709551616]; omega
 rw [e, Nat.add_mul_div_left _ _ hy, Nat.add_mul_mod_self_left]
 generalize (ah % y * 18446744073709551616 + al) / y = q at *
 generalize ah / y = p at *
 unfold HI LO
 exact ⟨by omega, by omega, rfl⟩
set_option maxRecDepth 100000 in
set_option maxHeartbeats 2000000 in
theorem div_short (ah al bl : Nat) (h1 : W64 ah) (h2 : W64 al) (h4 : W64 bl) (hB : 0 < bl) (w : World) :
  Calls Try.prog 20 #[U ah al, U 0 bl] w fun e w' => e = .returned (.tuple #[U (HI (V ah al / bl)) (LO (V ah al / bl)), U 0 (V ah al % bl), .bool true]) ∧ Below w.heap.size w w' := by
 obtain ⟨e1, e2, e3⟩ := lo_hi_div ah al bl h2 hB h4
 rw [e1, e2, e3]
 have F1 := fun w => div64_any 0 ah bl hB h4 h1 w
 rw [Nat.zero_mul, Nat.zero_add] at F1
 have F2 := fun w => div64_any (ah % bl) al bl (Nat.mod_lt _ hB) h4 h2 w
 generalize (ah % bl * 18446744073709551616 + al) / bl = lo at *
 generalize (ah % bl * 18446744073709551616 + al) % bl = r at *
 generalize ah / bl = hi at *
 generalize ah % bl = r1 at *
 have G1 : Hid (∀ w : World, Calls Try.prog 32 #[.int .u64 0, .int .u64 (ah : Int), .int .u64 (bl : Int)] w fun e w' => e = .returned (.tuple #[.int .u64 (hi : Int), .int .u64 (r1 : Int)]) ∧ ∃ n, w' = w.drewN n) := F1
 have G2 := Lib.hid F2
 clear F1 F2 e1 e2 e3
 have hx : ((bl : Int) == 0) = false := by simp; omega
 go_enter Try.func20, Try.ntmps20
 go_wp2_with fail
 refine (G1.out _).mono ?_
 rintro e w1 ⟨rfl, n, rfl⟩
 go_wp2_with fail
 refine (G2.out _).mono ?_
 rintro e w2 ⟨rfl, m, rfl⟩
 go_wp2_with fail
 refine (of_any r _).mono ?_
 rintro e w1 ⟨rfl, hb⟩
 obtain ⟨hc, hf⟩ := bcell hb
 have hz := hb.size
 simp at hz
 have l2 : w.heap.size + 1 + 1 < w1.heap.size := by omega
 have l3 : w.heap.size + 1 + 1 + 1 < w1.heap.size := by omega
 have v2 : VC w1 (w.heap.size + 1 + 1) 0 0 := ⟨by rw [hc _ _ (by simp)]; simp [go_sem], by rw [hc _ _ (by simp)]; simp [go_sem], by rw [hf _ _ (by simp)]; simp [go_sem], by rw [hf _ _ (by simp)]; simp [go_sem]⟩
 have v3 : VC w1 (w.heap.size + 1 + 1 + 1) 0 0 := ⟨by rw [hc _ _ (by simp)]; simp [go_sem], by rw [hc _ _ (by simp)]; simp [go_sem], by rw [hf _ _ (by simp)]; simp [go_sem], by rw [hf _ _ (by simp)]; simp [go_sem]⟩
 obtain ⟨x2, x3, x4, x5⟩ := id v2
 obtain ⟨y2, y3, y4, y5⟩ := id v3
 go_wp2_with fail
 obtain ⟨g0, g1, _, _⟩ := vc_other (i := 1) (x := .int .u64 (r : Int)) (g := w.heap.size + 1 + 1 + 1) (by simp) (vc_other (i := 0) (x := .int .u64 0) (g := w.heap.size + 1 + 1 + 1) (by simp) (vc_lo (m := lo) (vc_hi (m := hi) v2)))
 obtain ⟨g2, g3, _, _⟩ := vc_lo (m := r) (vc_hi (m := 0) (vc_other (i := 1) (x := .int .u64 (lo : Int)) (g := w.heap.size + 1 + 1) (by simp) (vc_other (i := 0) (x := .int .u64 (hi : Int)) (g := w.heap.size + 1 + 1) (by simp) v3)))
 refine bodyPost_ret (v := .tuple #[U hi lo, U 0 r, .bool true]) (by simp at g0 g1 g2 g3; simp [results, Try.results20, g0, g1, g2, g3, go_sem]) rfl ⟨rfl, ?_⟩
 repeat refine bset ?_ _ (by (try simp) <;> omega)
 exact btr (bdn (ba (ba (ba (ba (Below.refl _ _) _) _) _) _) _) hb
end Go.Proofs.Ytbpcehbcbcojiaa
