import Derived.Test.YtobdhjnaglikaaaProg
import Derived.Test.YtobdhjnaglikaaaDg
import Derived.Test.YtobdhjnaglikaaaRz
import Derived.WalkKit
import Derived.WalkSpells
import Derived.WalkLawsBesides
import Derived.Lib.Hide
import Derived.Laws.CopyOwn
namespace Go.Proofs.Ytobdhjnaglikaaa
open Go.RowKit
set_option linter.unusedVariables false
set_option linter.unusedSimpArgs false
def dA (f : Nat → Nat) (n : Nat) : Array Value := Array.ofFn (n := n) fun i => .int .u64 ((f i.val : Nat) : Int)
theorem dA_size (f : Nat → Nat) (n : Nat) : (dA f n).size = n := by simp [dA]
theorem dA_get (f : Nat → Nat) (n i : Nat) (h : i < n) : (dA f n)[i]? = some (.int .u64 ((f i : Nat) : Int)) := by
 rw [Array.getElem?_eq_getElem (by rw [dA_size]; exact h)]; simp only [dA, Array.getElem_ofFn]
theorem dA_congr {f g : Nat → Nat} {n : Nat} (h : ∀ i, i < n → f i = g i) : dA f n = dA g n := by
 unfold dA; congr 1; funext i; rw [h i.val i.isLt]
def upd (f : Nat → Nat) (k v : Nat) : Nat → Nat := fun i => if i = k then v else f i
theorem dA_set (f : Nat → Nat) (n k v : Nat) : (dA f n).setIfInBounds k (.int .u64 ((v : Nat) : Int)) = dA (upd f k v) n := by
 apply Array.ext
 ·
  simp [dA]
 ·
  intro i h1 h2
  rw [dA_size] at h2
  rw [Array.getElem_setIfInBounds (by rw [dA_size]; exact h2)]
  simp only [dA, Array.getElem_ofFn, upd]
  by_cases e : k = i
  ·
   rw [if_pos e, if_pos e.symm]
  ·
   rw [if_neg e, if_neg (fun h => e h.symm)]
theorem dA_one (f : Nat → Nat) (n : Nat) : (dA f n).all (·.oneCell') = true := by
 rw [Array.all_eq_true]; intro i h; simp only [dA, Array.getElem_ofFn]; rfl
theorem dA8_info (f : Nat → Nat) : (Try.prog.info? 65).map (·.size) = some (dA f 8).size := by rw [dA_size]; kernel_rfl
theorem dA8_zero (w : World) : (zeroValue 65).run Try.prog w = .ok (.agg (dA (fun _ => 0) 8)) w := by
 have e : dA (fun _ => 0) 8 = Array.replicate 8 (.int .u64 0) := by
  unfold dA; apply Array.ext <;> simp
 rw [e]; exact (by kernel_rfl : (zeroValue 65).run Try.prog w = .ok (.agg (Array.replicate 8 (.int .u64 0))) w)
def dgA (h l k : Nat) : Nat → Nat := fun j => if j < 4 then (if j < k then Dg.D l j else 0) else if j - 4 < k then Dg.D h (j - 4) else 0
theorem heap3_new (w : World) (A B C : Obj) : (((w.alloc A).alloc B).alloc C).heap[w.heap.size + 1 + 1]? = some C := by
 have h := heap_alloc2_new (w.alloc A) B C
 have e : (w.alloc A).heap.size = w.heap.size + 1 := by
  show (w.heap.push A).size = _
  simp
 rwa [e] at h
theorem heap3_mid (w : World) (A B C : Obj) : (((w.alloc A).alloc B).alloc C).heap[w.heap.size + 1]? = some B := by
 have h := heap_alloc2_old (w.alloc A) B C
 have e : (w.alloc A).heap.size = w.heap.size + 1 := by
  show (w.heap.push A).size = _
  simp
 rwa [e] at h
theorem dgA_zero (h l : Nat) : dA (fun _ => 0) 8 = dA (dgA h l 0) 8 := dA_congr fun i _ => by simp [dgA]
theorem dgA_step (h l k : Nat) (hk : k < 4) : dA (upd (upd (dgA h l k) k (Dg.D l k)) (4 + k) (Dg.D h k)) 8 = dA (dgA h l (k + 1)) 8 := dA_congr fun i _ => by
 unfold upd dgA
 by_cases e1 : i = 4 + k
 ·
  subst e1
  rw [if_pos rfl, if_neg (by omega), if_pos (by omega), Nat.add_sub_cancel_left]
 ·
  rw [if_neg e1]
  by_cases e2 : i = k
  ·
   subst e2
   rw [if_pos rfl, if_pos (by omega), if_pos (by omega)]
  ·
   rw [if_neg e2]
   by_cases h4 : i < 4
   ·
    rw [if_pos h4, if_pos h4]
    by_cases h5 : i < k
    ·
     rw [if_pos h5, if_pos (by omega)]
    ·
     rw [if_neg h5, if_neg (by omega)]
   ·
    rw [if_neg h4, if_neg h4]
    by_cases h5 : i - 4 < k
    ·
     rw [if_pos h5, if_pos (by omega)]
    ·
     rw [if_neg h5, if_neg (by omega)]
theorem D_int (l k : Nat) : ((l : Int) / 2 ^ (16 * k)).tmod 65536 = ((Dg.D l k : Nat) : Int) := by
 have e : (2 : Int) ^ (16 * k) = ((65536 ^ k : Nat) : Int) := by
  rw [Int.pow_mul, Int.natCast_pow]; rfl
 rw [e, ← Int.natCast_ediv]
 rfl
set_option maxRecDepth 100000 in
set_option maxHeartbeats 1000000 in
theorem digits_any (h l : Nat) (h1 : W64 h) (h2 : W64 l) (w : World) :
  Calls Try.prog 46 #[U h l] w fun e w' => e = .returned (.agg (dA (dgA h l 4) 8)) ∧ Below w.heap.size w w' := by
 have hz := dA8_zero
 go_enter Try.func46, Try.ntmps46
 go_wp2
 go_loopw [4] (fun i wr => ∃ k : Nat, k ≤ 4 ∧ i = .int .i64 k ∧ wr = ((w.alloc (.cells #[.int .u64 h, .int .u64 l] 58)).alloc (.cells (dA (fun _ => 0) 8) 65)).alloc (.cells (dA (dgA h l k) 8) 65)) (fun i _ => 4 - (intOf i).toNat)
 case atStart => exact ⟨0, Nat.zero_le _, rfl, by rw [← dgA_zero]⟩
 case round =>
  obtain ⟨k, hk, rfl, rfl⟩ := hrel
  clear hz
  by_cases hlt : k < 4
  ·
   have hb : decide ((k : Int) < 4) = true := decide_eq_true (by omega)
   have hv1 := dA_get (dgA h l k) 8 k (by omega)
   have hv2 := dA_get (upd (dgA h l k) k (Dg.D l k)) 8 (4 + k) (by omega)
   have e1 := D_int l k
   have e2 := D_int h k
   have e3 := dA_set (dgA h l k) 8 k (Dg.D l k)
   have e4 := dA_set (upd (dgA h l k) k (Dg.D l k)) 8 (4 + k) (Dg.D h k)
   have e5 := dgA_step h l k hlt
   go_wp2
   go_roundw
   case rel => exact ⟨k + 1, by omega, by go_num, rfl⟩
   case measure => simp [intOf]; omega
  ·
   obtain rfl : k = 4 := by omega
   go_wp2_with (first | (refine wpList_load_row rfl 65 _ rfl (w.heap.size + 1 + 1) rfl 65 (dA (dgA h l 4) 8) (0, 0) _ (heap3_new w _ _ _) Try.underlying65 rfl (dA8_info _) ?_) | (refine wpList_store_row rfl 65 _ _ rfl (w.heap.size + 1) (dA (dgA h l 4) 8) rfl rfl 65 (dA (fun _ => 0) 8) (heap3_mid w _ _ _) (dA8_info _) (by rw [dA_size, dA_size]) (dA_one _ _) ?_))
   refine bodyPost_ret (results_cell_row rfl _ _ (w.heap.size + 1) 65 (dA (dgA h l 4) 8) (0, 0) _ rfl (setRow_heap _ _ (dA (fun _ => 0) 8) _ _ _ (heap3_mid w _ _ _)) Try.underlying65 rfl (dA8_info _)) rfl ⟨rfl, ?_⟩
   exact below_setRow (ba (ba (ba (Below.refl _ _) _) _) _) (Nat.le_succ _) _
end Go.Proofs.Ytobdhjnaglikaaa
