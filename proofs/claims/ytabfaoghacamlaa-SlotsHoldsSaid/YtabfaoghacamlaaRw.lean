/- slices.Repeat of one string: the walk. -/
import Derived.Test.YtabfaoghacamlaaShelf
import Derived.Test.YtabfaoghacamlaaWWords
import Derived.Below
import Derived.WalkKit
import Derived.LoopTactic
import Derived.Outline
import Derived.Lib.Hide
import Derived.WalkLawsBesides
import Derived.RowKit3
import Derived.Laws.CopyOwn
import Derived.Laws.MakeOwn
import Derived.Laws.Rows
import Derived.Deep.RegionLaw
namespace Go.Proofs.Ytabfaoghacamlaa
open Go.RowKit
set_option linter.unusedVariables false
set_option linter.unusedSimpArgs false
def rowL (x : ByteArray) (n k : Nat) : List Value := List.replicate k (.string x) ++ List.replicate (n - k) (.string ByteArray.empty)
theorem rowL_made (x : ByteArray) (n : Nat) : madeCells (Value.string ByteArray.empty).cells n = (rowL x n 0).toArray := by
  unfold madeCells rowL
  apply Array.ext'
  simp [Value.cells]
  apply List.ext_getElem
  · simp
  · intro i h1 h2; simp [Nat.mod_one]
theorem rowL_len (x : ByteArray) (n k : Nat) (h : k ≤ n) : (rowL x n k).length = n := by simp [rowL]; omega
theorem rowL_splice (x : ByteArray) (n k m : Nat) (h : k + m ≤ n) : splice (rowL x n k) k (List.replicate m (.string x)) = rowL x n (k + m) := by
  unfold splice rowL
  rw [List.take_left' (by simp), List.length_replicate, List.drop_append, List.drop_eq_nil_of_le (by simp), List.nil_append, List.length_replicate, List.drop_replicate, ← List.append_assoc, List.replicate_append_replicate]
  congr 2; omega
theorem mul_one_n (n : Nat) (h : n ≤ 1024) (w : World) : Calls Try.prog 29 #[.int .u64 1, .int .u64 (n : Int)] w fun e w' => e = .returned (.tuple #[.int .u64 0, .int .u64 (n : Int)]) ∧ w = w' := by
  have := Try.bits_Mul 1 n (by omega) (by omega) w
  rw [Nat.one_mul, Nat.div_eq_of_lt (by omega), Nat.mod_eq_of_lt (by omega)] at this
  exact this.mono fun e w' ⟨a, b⟩ => ⟨a, b.symm⟩
theorem lt_of_cell {w : World} {p : Addr} {v : Value} (h : w.cell? p = some v) : p.block < w.heap.size := by
  apply Classical.byContradiction
  intro hn
  have : w.heap[p.block]? = none := Array.getElem?_eq_none (by omega)
  unfold World.cell? at h
  rw [this] at h
  simp at h
theorem row_src (w : World) (g : Nat) (x : ByteArray) (n k m : Nat) (hm : m ≤ k) (hG : w.heap[g]? = some (.cells (rowL x n k).toArray 9 (0,0))) : ∀ j v, (List.replicate m (Value.string x))[j]? = some v → w.cell? ((⟨g, 0, none⟩ : Addr).add j) = some v := by
  intro j v hj
  obtain ⟨hj1, hj2⟩ := List.getElem?_eq_some_iff.1 hj
  rw [List.getElem_replicate] at hj2
  rw [List.length_replicate] at hj1
  subst hj2
  have e : (⟨g, 0, none⟩ : Addr).add j = ⟨g, j, none⟩ := by
    unfold Addr.add; split
    · rename_i h; subst h; rfl
    · simp
  rw [e]
  unfold World.cell?
  dsimp only
  rw [hG]
  simp [rowL]
  rw [List.getElem?_append_left (by simp; omega), List.getElem?_replicate, if_pos (by omega)]
set_option maxHeartbeats 1000000 in
theorem rep_walk (ad : Addr) (c : Nat) (x : ByteArray) (n : Nat) (w : World) (h1 : 1 ≤ n) (h2 : n ≤ 1024) (hc : w.cell? ad = some (.string x)) :
    Calls Try.prog 21 #[.slice (some ad) 1 c, .int .i64 n] w fun e w' => e = .returned (.slice (some ⟨w.heap.size, 0, none⟩) n n) ∧ w'.heap[w.heap.size]? = some (.cells (List.replicate n (Value.string x)).toArray 9 (0,0)) ∧ Below w.heap.size w w' := by
  have hI : (Try.prog.info? 9).map (fun i => (i.zero, i.size, i.bytes)) = some (some (.string ByteArray.empty), 1, 16) := by kernel_rfl
  obtain ⟨i0, hi, he⟩ := Option.map_eq_some_iff.1 hI
  simp only [Prod.mk.injEq] at he
  obtain ⟨hz0, hz1, hz2⟩ := he
  have hmk : (Instr.makeSlice 25 (.int .i64 (n : Int)) (.int .i64 (n : Int))).run Try.prog w = .ok (.slice (some ⟨w.heap.size, 0, none⟩) n n) (w.alloc (.cells (rowL x n 0).toArray 9)) := by
    have := run_make (P := Try.prog) w 25 9 i0 (.string ByteArray.empty) Try.underlying25 hi hz0 .i64 .i64 n n (by omega) (by omega) (by rw [hz2]; omega) (by omega)
    rw [Int.toNat_natCast, hz1, Nat.mul_one, rowL_made x n] at this
    exact this
  obtain ⟨R0, hR0⟩ : ∃ R, R = rowL x n 0 := ⟨_, rfl⟩
  rw [← hR0] at hmk
  obtain ⟨W1, hW1⟩ : ∃ W1, W1 = w.alloc (.cells R0.toArray 9) := ⟨_, rfl⟩
  rw [← hW1] at hmk
  have HB1 := Lib.hid (show Below w.heap.size w W1 by subst hW1; exact (Below.refl _ _).alloc (Nat.le_refl _) _)
  have HG1 := Lib.hid (show W1.heap[w.heap.size]? = some (.cells R0.toArray 9 (0,0)) by subst hW1; exact heap_alloc_new w _)
  have hcell : ∀ j v, [Value.string x][j]? = some v → W1.cell? (ad.add j) = some v := by
    intro j v hj
    cases j with
    | zero =>
      obtain rfl : Value.string x = v := by simpa using hj
      have : ad.add 0 = ad := rfl
      rw [this]
      rw [HB1.out.cell (lt_of_cell hc)]; exact hc
    | succ j => simp at hj
  have HC := Lib.hid hcell
  have HR := Lib.hid hR0
  have HL := Lib.hid (show 0 + [Value.string x].length ≤ R0.length by rw [hR0, rowL_len _ _ _ (Nat.zero_le _)]; exact h1)
  have hw1 : IntKind.u64.wrap (n : Int) = n := by
    have : IntKind.u64.wrap (n : Int) = (n : Int) % 18446744073709551616 := by simp [IntKind.wrap, IntKind.signed, IntKind.bits]
    rw [this]; omega
  clear hcell hc hR0 hW1
  have hcp : (Builtin.copy_ #[25, 25] 3 #[.slice (some ⟨w.heap.size, 0, none⟩) n n, .slice (some ad) 1 c]).run Try.prog W1 = .ok (.int .i64 1) (W1.setRow w.heap.size (splice R0 0 [Value.string x]).toArray) := by
    have := run_copy_row (P := Try.prog) W1 25 25 3 9 w.heap.size 0 n n ad 1 c R0.toArray 9 [Value.string x] Try.underlying25 (by kernel_rfl) HG1.out (show 1 = Nat.min 1 n from (Nat.min_eq_left h1).symm) HC.out (by simpa using HL.out) (fun v hv => by rw [List.mem_singleton.1 hv]; rfl)
    simpa [splice, goInt] using this
  rw [HR.out, show splice (rowL x n 0) 0 [Value.string x] = rowL x n 1 from by have := rowL_splice x n 0 1 (by omega); simpa using this] at hcp
  obtain ⟨W2, hW2⟩ : ∃ W2, W2 = W1.setRow w.heap.size (rowL x n 1).toArray := ⟨_, rfl⟩
  rw [← hW2] at hcp
  have HB2 := Lib.hid (show Below w.heap.size w W2 by rw [hW2]; exact below_setRow HB1.out (Nat.le_refl _) _)
  have HG2 := Lib.hid (show W2.heap[w.heap.size]? = some (.cells (rowL x n 1).toArray 9 (0,0)) by rw [hW2]; exact setRow_heap W1 _ _ _ 9 _ HG1.out)
  clear hW2 HR HL HC HG1
  go_enter Try.func21, Try.ntmps21
  go_wp2_with (go_at_call 29; refine (mul_one_n n h2 _).mono ?_; rintro e w' ⟨rfl, rfl⟩)
  go_loopw [8] (fun i wr => ∃ k : Nat, 1 ≤ k ∧ k ≤ n ∧ i = .int .i64 k ∧ wr.heap[w.heap.size]? = some (.cells (rowL x n k).toArray 9 (0,0)) ∧ Below w.heap.size w wr) (fun i _ => n - (intOf i).toNat)
  case atStart => exact ⟨1, Nat.le_refl _, h1, rfl, HG2.out, HB2.out⟩
  case round =>
    obtain ⟨k, hk1, hk2, rfl, hG, hB⟩ := hrel
    have HG := Lib.hid hG
    have HB := Lib.hid hB
    clear hG hB
    by_cases hlt : k < n
    · obtain ⟨m, hm⟩ : ∃ m, m = min k (n - k) := ⟨_, rfl⟩
      have hm1 : 1 ≤ m := by omega
      have hm2 : m ≤ k := by omega
      have hm3 : k + m ≤ n := by omega
      have hL : k + (List.replicate m (Value.string x)).length ≤ (rowL x n k).length := by rw [rowL_len _ _ _ hk2, List.length_replicate]; omega
      have HL := Lib.hid hL
      have HM := Lib.hid (show (List.replicate m (Value.string x)).length = Nat.min k (n - k) by rw [List.length_replicate, hm])
      have HS := Lib.hid (row_src wr w.heap.size x n k m hm2 HG.out)
      clear hL hm
      go_wp2
      go_region_law (refine step_copy_splice rfl (.tmp 41) (.tmp 44) 25 25 rfl 9 Try.underlying25 (by kernel_rfl) (some ⟨w.heap.size, k, none⟩) (some ⟨w.heap.size, 0, none⟩) (n - k) (n - k) k n (by first | (simp [Act.eval, Act.put]; omega) | simp [Act.eval, Act.put]) (by simp [Act.eval, Act.put]) w.heap.size k (rowL x n k) 9 (by exact HG.out) (List.replicate m (Value.string x)) HM.out (fun _ => ⟨rfl, _, rfl, by exact HS.out⟩) HL.out (fun v hv => by rw [(List.mem_replicate.1 hv).2]; rfl) w.heap.size w (by first | exact HB.out | exact HB.out.drew) (Nat.le_refl _) ?_; intro w4 HG4 HB4)
      have e : IntKind.i64.wrap ((k : Int) + (m : Int)) = ((k + m : Nat) : Int) := by rw [IntKind.wrap_i64]; omega
      have HB5 := Lib.hid HB4
      clear HB4
      have HG5 := Lib.hid (show w4.heap[w.heap.size]? = some (Obj.cells (rowL x n (k + m)).toArray 9) by rw [← rowL_splice x n k m hm3]; exact HG4.out)
      clear HG4
      simp only [e]
      go_simp
      refine ⟨?rel, ?measure⟩
      case rel => exact ⟨_, _, _, _, _, _, _, _, _, _, _, _, _, _, ⟨k + m, by omega, hm3, rfl, HG5.out, HB5.out⟩, rfl⟩
      case measure => simp [intOf]; omega
    · obtain rfl : k = n := by omega
      go_wp2
      go_ret
      refine ⟨rfl, ?_, HB.out⟩
      have := HG.out
      rw [show rowL x k k = List.replicate k (Value.string x) by simp [rowL]] at this
      exact this
end Go.Proofs.Ytabfaoghacamlaa
