import Derived.Test.YtobdhjnaglikaaaRa
import Derived.Test.YtobdhjnaglikaaaWMore
import Derived.StillTailTactics
namespace Go.Proofs.Ytobdhjnaglikaaa
open Go.RowKit Go.Proofs.YtobdhjnaglikaaaW.PrintWords Go.Proofs.YtobdhjnaglikaaaW.PrintLast
set_option linter.unusedVariables false
set_option linter.unusedSimpArgs false
abbrev box2 (h l : Nat) : Obj := .cells #[.int .u64 (h : Int), .int .u64 (l : Int)] 58 (0, 0)
abbrev boxA (f : Nat → Nat) : Obj := .cells (dA f 8) 65 (0, 0)
theorem heap3_old (w : World) (A B C : Obj) : (((w.alloc A).alloc B).alloc C).heap[w.heap.size]? = some A := blk_alloc (blk_alloc (blk_new w A) B) C
structure Nw (w wr : World) (s : Nat) (f : Nat → Nat) (h l : Nat) : Prop where
 d : wr.heap[s]? = some (boxA f)
 r : wr.heap[s + 1]? = some (box2 0 0)
 a : wr.heap[s + 1 + 1]? = some (box2 h l)
 b : Below w.heap.size w wr
theorem Nw.lo {w wr : World} {s : Nat} {f : Nat → Nat} {h l : Nat} (t : Nw w wr s f h l) (hs : w.heap.size ≤ s) (x : Nat) : Nw w (wr.drew.setCell ⟨s + 1 + 1, 1, none⟩ (.int .u64 (x : Int))) s f h x :=
 ⟨blk_far (blk_drew t.d) (by dsimp only; omega) _, blk_far (blk_drew t.r) (by simp) _, blk_put (blk_drew t.a) 1 _ rfl, bset (bd t.b) _ (by simp; omega)⟩
theorem Nw.hi {w wr : World} {s : Nat} {f : Nat → Nat} {h l : Nat} (t : Nw w wr s f h l) (hs : w.heap.size ≤ s) (x : Nat) : Nw w (wr.drew.setCell ⟨s + 1 + 1, 0, none⟩ (.int .u64 (x : Int))) s f x l :=
 ⟨blk_far (blk_drew t.d) (by dsimp only; omega) _, blk_far (blk_drew t.r) (by simp) _, blk_put (blk_drew t.a) 0 _ rfl, bset (bd t.b) _ (by simp; omega)⟩
theorem u64w (n : Nat) (h : n < 18446744073709551616) : IntKind.u64.wrap (n : Int) = (n : Int) := by
 simp [IntKind.wrap, IntKind.bits, IntKind.signed]; omega
theorem step_lo (l m : Nat) (h : W64 l) : ∃ L x, l / 65536 ^ (m + 1) = L ∧ Dg.D l m = x ∧ l / 65536 ^ m = L * 65536 + x ∧ L * 65536 + x < 18446744073709551616 := by
 refine ⟨_, _, rfl, rfl, ?_, ?_⟩
 ·
  rw [Dg.div_succ]; unfold Dg.D; omega
 ·
  have := Nat.div_le_self l (65536 ^ m)
  rw [Dg.div_succ]; unfold Dg.D; omega
set_option maxRecDepth 100000 in
set_option maxHeartbeats 1000000 in
theorem number_any (f : Nat → Nat) (h l : Nat) (h1 : W64 h) (h2 : W64 l) (hf : ∀ i, i < 4 → f i = Dg.D l i ∧ f (4 + i) = Dg.D h i) (w : World) :
  Calls Try.prog 49 #[.agg (dA f 8)] w fun e w' => e = .returned (U h l) ∧ Below w.heap.size w w' := by
 go_enter Try.func49, Try.ntmps49
 go_wp2
 go_loopw [4] (fun i wr => ∃ k : Nat, k ≤ 4 ∧ i = .int .i64 ((k : Int) - 1) ∧ Nw w wr w.heap.size f (h / 65536 ^ k) (l / 65536 ^ k)) (fun i _ => (intOf i + 1).toNat)
 case atStart => exact ⟨4, Nat.le_refl _, rfl, by rw [Nat.div_eq_of_lt h1, Nat.div_eq_of_lt h2]; exact ⟨heap3_old w _ _ _, heap3_mid w _ _ _, heap3_new w _ _ _, ba (ba (ba (Below.refl _ _) _) _) _⟩⟩
 case round =>
  obtain ⟨k, hk, rfl, hN⟩ := hrel
  rcases k with _ | m
  ·
   rw [show (((0 : Nat) : Int) - 1) = -1 from rfl]
   rw [Nat.pow_zero, Nat.div_one, Nat.div_one] at hN
   have c1 : wr.cell? ⟨w.heap.size + 1 + 1, 1, none⟩ = some (.int .u64 (l : Int)) := (blk_cell hN.a 1).trans rfl
   have c0 : wr.cell? ⟨w.heap.size + 1 + 1, 0, none⟩ = some (.int .u64 (h : Int)) := (blk_cell hN.a 0).trans rfl
   have r1 : wr.cell? ⟨w.heap.size + 1, 1, none⟩ = some (.int .u64 0) := (blk_cell hN.r 1).trans rfl
   have r0 : wr.cell? ⟨w.heap.size + 1, 0, none⟩ = some (.int .u64 0) := (blk_cell hN.r 0).trans rfl
   have f1 := blk_frozen hN.r 1
   have f0 := blk_frozen hN.r 0
   have hb := Aside0.mk hN.b
   have hr := Aside0.mk hN.r
   clear hN hf
   go_wp2
   refine bodyPost_ret (results_cell_row rfl _ _ (w.heap.size + 1) 58 #[.int .u64 (h : Int), .int .u64 (l : Int)] (0, 0) _ rfl (blk_put (blk_put hr.out 0 _ rfl) 1 _ rfl) Try.underlying58 rfl (by kernel_rfl)) rfl ⟨rfl, ?_⟩
   exact bset (bset hb.out _ (Nat.le_succ _)) _ (Nat.le_succ _)
  ·
   have em : ((m + 1 : Nat) : Int) - 1 = (m : Int) := by omega
   rw [em]
   have hb : decide ((0 : Int) ≤ (m : Int)) = true := decide_eq_true (by omega)
   have hm4 : m < 4 := by omega
   have hm8 : (m : Int) < 8 := by omega
   obtain ⟨q, hq, hq8, hqw⟩ : ∃ q : Nat, 4 + m = q ∧ (q : Int) < 8 ∧ IntKind.i64.wrap (4 + (m : Int)) = (q : Int) := ⟨4 + m, rfl, by omega, by rw [IntKind.wrap_i64]; omega⟩
   obtain ⟨hf1, hf2⟩ := hf m (by omega)
   obtain ⟨L, x, hL, hx, hLx, hLs⟩ : ∃ L x, l / 65536 ^ (m + 1) = L ∧ Dg.D l m = x ∧ l / 65536 ^ m = L * 65536 + x ∧ L * 65536 + x < 18446744073709551616 := step_lo l m h2
   obtain ⟨H, y, hH, hy, hHy, hHs⟩ : ∃ L x, h / 65536 ^ (m + 1) = L ∧ Dg.D h m = x ∧ h / 65536 ^ m = L * 65536 + x ∧ L * 65536 + x < 18446744073709551616 := step_lo h m h1
   rw [hx] at hf1
   rw [hy, hq] at hf2
   rw [hL, hH] at hN
   have d1 : wr.cell? ⟨w.heap.size, m, none⟩ = some (.int .u64 (x : Int)) := (blk_cell hN.d m).trans ((dA_get f 8 m (by omega)).trans (by rw [hf1]))
   have c1 : wr.cell? ⟨w.heap.size + 1 + 1, 1, none⟩ = some (.int .u64 (L : Int)) := (blk_cell hN.a 1).trans rfl
   have f1 := blk_frozen hN.a 1
   have hK := Lib.hid (hN.lo (Nat.le_refl _) (L * 65536 + x))
   rw [Int.natCast_add, Int.natCast_mul, show ((65536 : Nat) : Int) = 65536 from rfl] at hK
   have hE := Lib.hid (And.intro hLx hHy)
   have w1 := u64w (L * 65536) (Nat.lt_of_le_of_lt (Nat.le_add_right _ _) hLs)
   have w2 := u64w (L * 65536 + x) hLs
   have w3 := u64w (H * 65536) (Nat.lt_of_le_of_lt (Nat.le_add_right _ _) hHs)
   have w4 := u64w (H * 65536 + y) hHs
   rw [Int.natCast_mul] at w1 w3
   rw [Int.natCast_add, Int.natCast_mul] at w2 w4
   rw [show ((65536 : Nat) : Int) = 65536 from rfl] at w1 w2 w3 w4
   have hf := Lib.hid hf2
   clear hLx hHy hLs hHs hx hy hL hH hf1 hf2 hN
   go_wp2
   go_still_tail 7, (by kernel_rfl)
   change wpList _ _ _ _ _ wr.drew
   go_wp2
   obtain ⟨wr2, hwr2⟩ : ∃ wr2, wr2 = (wr.setCell ⟨w.heap.size + 1 + 1, 1, none⟩ (.int .u64 ((L : Int) * 65536 + x))).drew := ⟨_, rfl⟩
   replace hK := Lib.hid (show Nw w wr2 w.heap.size f H (L * 65536 + x) by rw [hwr2]; exact hK.out)
   rw [← hwr2]
   clear hwr2 d1 c1 f1
   have hN := hK.out
   have d2 : wr2.cell? ⟨w.heap.size, q, none⟩ = some (.int .u64 (y : Int)) := (blk_cell hN.d q).trans ((dA_get f 8 q (by omega)).trans (by rw [hf.out]))
   have c0 : wr2.cell? ⟨w.heap.size + 1 + 1, 0, none⟩ = some (.int .u64 (H : Int)) := (blk_cell hN.a 0).trans rfl
   have f0 := blk_frozen hN.a 0
   have hK2 := Lib.hid (hN.hi (Nat.le_refl _) (H * 65536 + y))
   rw [Int.natCast_add, Int.natCast_mul, show ((65536 : Nat) : Int) = 65536 from rfl] at hK2
   clear hN
   go_still_tail 8, (by kernel_rfl)
   change wpList _ _ _ _ _ wr2.drew
   go_wp2
   go_roundw
   case rel => exact ⟨m, by omega, by go_num, by rw [hE.out.1, hE.out.2]; exact hK2.out⟩
   case measure => simp [intOf]
end Go.Proofs.Ytobdhjnaglikaaa
