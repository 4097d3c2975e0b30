import Derived.Test.YtobdhjnaglikaaaRc
namespace Go.Proofs.Ytobdhjnaglikaaa
open Go.RowKit Go.Proofs.YtobdhjnaglikaaaW.PrintWords Go.Proofs.YtobdhjnaglikaaaW.PrintLast
set_option linter.unusedVariables false
set_option linter.unusedSimpArgs false
attribute [local go_sem] run_store_zero at0_new at0_next at0_old at0_old2 at0_row at0_old_row at0_drew
structure TwA (w wr : World) (s g5 g6 : Nat) (F : Nat → Nat) (C : Nat) : Prop where
 x : ∃ f, wr.heap[g5]? = some (boxA f) ∧ ∀ j, j < 8 → f j = F j
 y : ∃ f, wr.heap[g6]? = some (boxA f) ∧ ∀ j, j < 8 → f j = Dg.D C j
 r : wr.heap[s + 1 + 1]? = some (box2 0 0)
 b : Below w.heap.size w wr
theorem V_lt9 {h l : Nat} (h1 : W64 h) (h2 : W64 l) : V h l < 340282366920938463463374607431768211456 := by unfold V; omega
theorem w64s {x y m : Nat} (h : m = x + y) (hm : m < 18446744073709551616) : IntKind.u64.wrap ((x : Int) + (y : Int)) = (m : Int) := by
 rw [← Int.natCast_add, ← h]; exact u64w m hm
theorem fill_step (F G : Nat → Nat) (k : Nat) (j : Nat) (hj : j < 8) : (if j = k then G k else if j < k then G j else F j) = if j < k + 1 then G j else F j := by
 by_cases e : j = k
 ·
  rw [if_pos e, if_pos (by omega), e]
 ·
  rw [if_neg e]
  by_cases e2 : j < k
  ·
   rw [if_pos e2, if_pos (by omega)]
  ·
   rw [if_neg e2, if_neg (by omega)]
theorem TwA.step {w wr : World} {s g5 g6 : Nat} {F : Nat → Nat} {C : Nat} (t : TwA w wr s g5 g6 F C) (h5 : s + 1 + 1 < g5) (ne : g5 ≠ g6) (hs : s = w.heap.size) (k v : Nat) (F' : Nat → Nat) (hF : ∀ j, j < 8 → (if j = k then v else F j) = F' j) :
  TwA w (wr.setCell ⟨g5, k, none⟩ (.int .u64 (v : Int))).drew s g5 g6 F' C := by
 obtain ⟨f, hx, hf⟩ := t.x
 obtain ⟨f', hy, hf'⟩ := t.y
 refine ⟨⟨upd f k v, ?_, fun j hj => ?_⟩, ⟨f', blk_drew (blk_far hy ne.symm _), hf'⟩, blk_drew (blk_far t.r (by dsimp only; omega) _), bd (bset t.b _ (by dsimp only; omega))⟩
 ·
  exact blk_drew (blk_put hx k _ (dA_set f 8 k v))
 ·
  rw [← hF j hj]; unfold upd; split
  ·
   rfl
  ·
   exact hf j hj
theorem D_V (N : Nat) (i : Nat) (hi : i < 4) : Dg.D N i = Dg.D (LO N) i ∧ Dg.D N (4 + i) = Dg.D (HI N) i := by
 have h1 := dgA_V (HI N) (LO N) i (LO_lt N) (by omega)
 have h2 := dgA_V (HI N) (LO N) (4 + i) (LO_lt N) (by omega)
 rw [V_HILO] at h1 h2
 unfold dgA at h1 h2
 rw [if_pos hi, if_pos hi] at h1
 rw [if_neg (by omega), Nat.add_sub_cancel_left, if_pos hi] at h2
 exact ⟨h1.symm, h2.symm⟩
theorem put24 {w : World} {g : Nat} {h l : Nat} (t : w.heap[g]? = some (box2 h l)) (x y : Nat) : ((w.setCell ⟨g, 0, none⟩ (.int .u64 (x : Int))).setCell ⟨g, 1, none⟩ (.int .u64 (y : Int))).heap[g]? = some (box2 x y) :=
 blk_put (blk_put t 0 _ rfl) 1 _ rfl
end Go.Proofs.Ytobdhjnaglikaaa
