/- A row of bytes of the call's own, known byte by byte: what a store, a conversion and a draw make of it. -/
import Derived.Test.YtjmcdnhbiamokaaPureG
import Derived.Laws.IdiomStrings
import Derived.Deep.OwnRows
import Derived.StillTailTactics
namespace Go.Proofs.Ytjmcdnhbiamokaa
open Go.RowKit

theorem bbt {a b c : World} (h : Below a.heap.size a b) (k : Below b.heap.size b c) : Below a.heap.size a c := h.trans (k.mono h.size)
theorem bdrew {a b : World} (h : Below a.drew.heap.size a.drew b) : Below a.heap.size a b := ⟨h.os, h.tape, h.output, h.size, h.block⟩

/-- block b holds the bytes l -/
def Row (w : World) (b : Nat) (l : List Nat) : Prop := ∀ j (h : j < l.length), w.cell? ⟨b, j, none⟩ = some (.int .u8 (l[j] : Nat)) ∧ w.frozen? ⟨b, j, none⟩ = false
theorem Row.drew {w : World} {b : Nat} {l : List Nat} (h : Row w b l) : Row w.drew b l := h
theorem Row.store {w : World} {b : Nat} {l : List Nat} (h : Row w b l) (i n : Nat) : Row (w.setCell ⟨b, i, none⟩ (.int .u8 (n : Int))) b (l.set i n) := by
  intro j hj
  rw [List.length_set] at hj
  obtain ⟨h1, h2⟩ := h j hj
  refine ⟨?_, by rw [World.frozen?_setCell]; exact h2⟩
  rw [List.getElem_set]
  by_cases e : i = j
  · subst e; rw [if_pos rfl]; exact World.cell?_setCell_same _ _ _ h1
  · rw [if_neg e, World.cell?_setCell_other _ _ _ _ (by intro x; injection x; contradiction)]; exact h1
theorem Row.string {w : World} {b : Nat} {t : ByteArray} {l : List Nat} (h : Row w b l) (hl : l = bs t) (cap : Nat) :
    (convert 36 9 (.slice (some ⟨b, 0, none⟩) l.length cap)).run Try.prog w = .ok (.string t) w := by
  subst hl
  have := run_convert_bytes_back (P := Try.prog) w 36 9 5 ⟨b, 0, none⟩ cap t.data.toList Try.underlying36 Try.underlying5 Try.underlying9 (fun j hj => by
    have e := (h j (by rw [bs_len]; simpa using hj)).1
    have ha : (⟨b, 0, none⟩ : Addr).add j = ⟨b, j, none⟩ := by unfold Addr.add; simp; exact Eq.symm
    rw [ha, e]; simp [bs])
  rw [show (bs t).length = t.data.toList.length by rw [bs_len]; simp]
  exact this
theorem Row.of_make (w : World) (n : Nat) : Row (w.alloc (.cells (madeCells #[.int .u8 0] n) 5)) w.heap.size (List.replicate n 0) := by
  intro j hj
  simp only [List.length_replicate] at hj
  refine ⟨?_, ?_⟩
  · rw [World.cell?_alloc_at _ _ _ _ rfl]; simp [madeCells, hj, Nat.mod_one]
  · exact World.frozen?_alloc_at _ _ _ _ rfl
theorem info5 : (Try.prog.info? 5).map (fun i => (i.zero, i.size, i.bytes)) = some (some (.int .u8 0), 1, 1) := by kernel_rfl
theorem run_make5 (n : Nat) (h : n ≤ 281474976710656) (w : World) : (Instr.makeSlice 36 (.int .i64 (n : Int)) (.int .i64 (n : Int))).run Try.prog w = .ok (.slice (some ⟨w.heap.size, 0, none⟩) n n) (w.alloc (.cells (madeCells #[.int .u8 0] n) 5)) :=
  run_make_row' 36 5 (.int .u8 0) 1 Try.underlying36 info5 rfl .i64 .i64 n (by omega) (by omega) w
/-- a string of bytes -/
def str (l : List Nat) : ByteArray := ⟨(l.map UInt8.ofNat).toArray⟩
theorem bs_str (l : List Nat) (h : ∀ c ∈ l, c < 256) : bs (str l) = l := by
  simp only [bs, str, List.map_map]
  rw [List.map_congr_left (g := id)]
  · simp
  · intro c hc; simp only [Function.comp, id]; exact UInt8.toNat_ofNat_of_lt' (h c hc)
theorem map_toNat_inj : ∀ {l m : List UInt8}, l.map (·.toNat) = m.map (·.toNat) → l = m
  | [], [], _ => rfl
  | x :: l, y :: m, h => by
    simp only [List.map_cons, List.cons.injEq] at h
    rw [UInt8.toNat_inj.1 h.1, map_toNat_inj h.2]
  | [], _ :: _, h => by simp at h
  | _ :: _, [], h => by simp at h
theorem bs_inj {a b : ByteArray} (h : bs a = bs b) : a = b := by
  have : a.data.toList = b.data.toList := map_toNat_inj h
  cases a; cases b; simp only at this; congr; exact Array.toList_inj.1 this
end Go.Proofs.Ytjmcdnhbiamokaa
