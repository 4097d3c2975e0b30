import Derived.Test.YthgacimoifbhiaaTx4
import Derived.Test.YthgacimoifbhiaaTx5
import Derived.Test.YthgacimoifbhiaaMergeE
namespace Go.Proofs.Ythgacimoifbhiaa
open Go.RowKit Go.Proofs.Ythgacimoifbhiaa.Q Go.Proofs.Ythgacimoifbhiaa.T Go.Proofs.YthgacimoifbhiaaW.PrintWords Go.Proofs.YthgacimoifbhiaaW.PrintLast Go.Proofs.YthgacimoifbhiaaW.PrintMore
set_option linter.unusedVariables false
set_option linter.unusedSimpArgs false
abbrev sampleR (K N : Int) (v : Value) : Obj := .cells #[.int .i64 K, .int .u64 N, v] 41 (0, 0)
abbrev wordsR (v : Value) (a : Int) : Obj := .cells #[v, .int .i64 a] 40 (0, 0)
structure Bq (w : World) (s : Nat) (K N : Int) (u : Value) (x : Value) (t : Int) : Prop where
 a : w.heap[s]? = some (sampleR K N u)
 o : w.heap[s + 1]? = some (wordsR x t)
 r : w.heap[s + 1 + 1]? = some (sampleR 0 0 (.slice none 0 0))
 q : w.heap[s + 1 + 1 + 1]? = some (wordsR (.slice none 0 0) 0)
section
variable {w w1 : World} {s : Nat} {K N a : Int} {u x : Value}
theorem Bq.below (h : Bq w s K N u x a) (hb : Below w.heap.size w w1) : Bq w1 s K N u x a := ⟨blk_below h.a hb, blk_below h.o hb, blk_below h.r hb, blk_below h.q hb⟩
theorem Bq.made (w : World) (K N : Int) (u x : Value) (a : Int) : Bq ((((w.alloc (sampleR K N u)).alloc (wordsR x a)).alloc (sampleR 0 0 (.slice none 0 0))).alloc (wordsR (.slice none 0 0) 0)) w.heap.size K N u x a := by
 have n (w : World) (o : Obj) (k : Nat) (hk : k = w.heap.size) : (w.alloc o).heap[k]? = some o := by subst hk; exact Deep.blk_alloc_new w o
 exact ⟨blk_alloc (blk_alloc (blk_alloc (n w _ _ rfl) _) _) _, blk_alloc (blk_alloc (n _ _ _ (by rw [size_push])) _) _, blk_alloc (n _ _ _ (by rw [size_push, size_push])) _,
  n _ _ _ (by rw [size_push, size_push, size_push])⟩
end
theorem put41 {w : World} {g : Nat} {k n : Int} {v : Value} (h : w.heap[g]? = some (sampleR k n v)) (K N : Int) (u : Value) : (((w.setCell ⟨g, 0, none⟩ (.int .i64 K)).setCell ⟨g, 1, none⟩ (.int .u64 N)).setCell ⟨g, 2, none⟩ u).heap[g]? = some (sampleR K N u) :=
 blk_put (cs := #[.int .i64 K, .int .u64 N, v]) (blk_put (cs := #[.int .i64 K, .int .u64 n, v]) (blk_put (cs := #[.int .i64 k, .int .u64 n, v]) h 0 _ rfl) 1 _ rfl) 2 _ rfl
theorem put40 {w : World} {g : Nat} {a : Int} {v : Value} (h : w.heap[g]? = some (wordsR v a)) (u : Value) (b : Int) : ((w.setCell ⟨g, 0, none⟩ u).setCell ⟨g, 1, none⟩ (.int .i64 b)).heap[g]? = some (wordsR u b) :=
 blk_put (cs := #[u, .int .i64 a]) (blk_put (cs := #[v, .int .i64 a]) h 0 _ rfl) 1 _ rfl
theorem heldR {w : World} {g k : Nat} {K N : Int} {u v : Value} {b : Int} (h : w.heap[g]? = some (sampleR K N u)) (h2 : w.heap[k]? = some (wordsR v b)) : w.cell? ⟨g, 0, none⟩ = some (.int .i64 K) ∧ w.cell? ⟨g, 1, none⟩ = some (.int .u64 N) ∧ w.cell? ⟨g, 2, none⟩ = some u ∧ w.cell? ⟨k, 0, none⟩ = some v ∧ w.cell? ⟨k, 1, none⟩ = some (.int .i64 b) :=
 ⟨(blk_cell h 0).trans rfl, (blk_cell h 1).trans rfl, (blk_cell h 2).trans rfl, (blk_cell h2 0).trans rfl, (blk_cell h2 1).trans rfl⟩
end Go.Proofs.Ythgacimoifbhiaa
