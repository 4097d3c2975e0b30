import Derived.Test.YthgacimoifbhiaaMnoR
namespace Go.Proofs.Ythgacimoifbhiaa
open Go.RowKit Go.Proofs.Ythgacimoifbhiaa.Q Go.Proofs.Ythgacimoifbhiaa.T Go.Proofs.YthgacimoifbhiaaW.PrintWords Go.Proofs.YthgacimoifbhiaaW.PrintLast Go.Proofs.YthgacimoifbhiaaW.PrintMore
set_option linter.unusedVariables false
set_option linter.unusedSimpArgs false
def Fm (s go gn : Nat) (vi : Value) (k : Nat) : Prop := k ≠ s + 1 + 1 ∧ k ≠ s + 1 + 1 + 1 ∧ k ≠ s + 1 + 1 + 1 + 1 ∧ k ≠ go ∧ k ≠ gn ∧ some k ≠ vi.ownBlock
structure Lq (w0 w : World) (s go gn : Nat) (K T : Int) (AW : Option Addr) (cW : Nat) (l : List Int) (a0 : Int) (Ax : Option Addr) (cx : Nat) (X : List ByteArray) (Ay : Option Addr) (cy : Nat) (Y : List ByteArray) (vi : Value) (items : List ByteArray) (A : Option Addr) (c : Nat) (a : Int) : Prop where
  o : w.heap[s + 1 + 1]? = some (wordsR (.slice AW l.length cW) a0)
  r : w.heap[s + 1 + 1 + 1]? = some (sampleR 0 0 (.slice none 0 0))
  q : w.heap[s + 1 + 1 + 1 + 1]? = some (wordsR (.slice none 0 0) 0)
  g : w.heap[go]? = some (sampleR K T vi)
  n : w.heap[gn]? = some (wordsR (.slice A l.length c) a)
  x : Kd.V Kd.string 9 w 0 (Fm s go gn vi) (.slice Ax X.length cx) X
  y : Kd.V Kd.string 9 w 0 (Fm s go gn vi) (.slice Ay Y.length cy) Y
  v : Kd.V (Kd.int .u64) 23 w 0 (Fm s go gn vi) (.slice A l.length c) l
  i : Kd.R Kd.string 9 w w0.heap.size (fun k => w0.heap.size ≤ k) vi items
  own : ∀ k, vi.ownBlock = some k → k ≠ s + 1 + 1 ∧ k ≠ s + 1 + 1 + 1 ∧ k ≠ s + 1 + 1 + 1 + 1 ∧ k ≠ go ∧ k ≠ gn
  ne : s + 1 + 1 + 1 + 1 < go ∧ go < gn
  lo : w0.heap.size ≤ s
  bel : Below w0.heap.size w0 w
section
variable {w0 w w1 : World} {s go gn : Nat} {K T : Int} {AW : Option Addr} {cW : Nat} {l : List Int} {a0 : Int} {Ax : Option Addr} {cx : Nat} {X : List ByteArray} {Ay : Option Addr} {cy : Nat} {Y : List ByteArray} {vi : Value} {items : List ByteArray} {A : Option Addr} {c : Nat} {a : Int}
theorem Lq.below (h : Lq w0 w s go gn K T AW cW l a0 Ax cx X Ay cy Y vi items A c a) (hb : Below w.heap.size w w1) : Lq w0 w1 s go gn K T AW cW l a0 Ax cx X Ay cy Y vi items A c a :=
  ⟨blk_below h.o hb, blk_below h.r hb, blk_below h.q hb, blk_below h.g hb, blk_below h.n hb, Kd.V_below h.x hb, Kd.V_below h.y hb, Kd.V_below h.v hb, Kd.R_below h.i hb, h.own, h.ne, h.lo, below_step h.bel hb⟩
theorem Lq.fresh (h : Lq w0 w s go gn K T AW cW l a0 Ax cx X Ay cy Y vi items A c a) {k : Nat} (hk : w.heap.size ≤ k) : Fm s go gn vi k := by
  have h1 := blk_lt h.n
  have h2 := h.ne
  refine ⟨by omega, by omega, by omega, by omega, by omega, fun e => ?_⟩
  have := Kd.R_lt h.i k e.symm
  omega
theorem Lq.app (h : Lq w0 w s go gn K T AW cW l a0 Ax cx X Ay cy Y vi items A c a) {vj : Value} {items2 : List ByteArray} (ho : Kd.R Kd.string 9 w1 w0.heap.size (fun k => w0.heap.size ≤ k) vj items2) (hb : Below w0.heap.size w0 w1) (hg : w.grownBy w1 vi.ownBlock)
    (hat : vj.ownBlock = vi.ownBlock ∨ ∃ b, vj.ownBlock = some b ∧ w.heap.size ≤ b) : Lq w0 (w1.setCell ⟨go, 2, none⟩ vj) s go gn K T AW cW l a0 Ax cx X Ay cy Y vj items2 A c a := by
  have h1 := blk_lt h.n
  have h2 := h.ne
  have na : ∀ k, Fm s go gn vi k → some k ≠ vi.ownBlock := fun k hk => hk.2.2.2.2.2
  have nb : ∀ k, (k = s + 1 + 1 ∨ k = s + 1 + 1 + 1 ∨ k = s + 1 + 1 + 1 + 1 ∨ k = go ∨ k = gn) → some k ≠ vi.ownBlock := fun k hk e => by have := h.own k e.symm; omega
  have up : ∀ k, Fm s go gn vi k ∧ k < w.heap.size → Fm s go gn vj k := by
    intro k hk
    refine ⟨hk.1.1, hk.1.2.1, hk.1.2.2.1, hk.1.2.2.2.1, hk.1.2.2.2.2.1, fun e => ?_⟩
    rcases hat with e2 | ⟨b, e2, e3⟩
    · exact hk.1.2.2.2.2.2 (by rw [e, e2])
    · rw [e2] at e
      injection e with e
      have := hk.2
      omega
  have own2 : ∀ k, vj.ownBlock = some k → k ≠ s + 1 + 1 ∧ k ≠ s + 1 + 1 + 1 ∧ k ≠ s + 1 + 1 + 1 + 1 ∧ k ≠ go ∧ k ≠ gn := by
    intro k hk
    rcases hat with e2 | ⟨b, e2, e3⟩
    · exact h.own k (by rw [← e2]; exact hk)
    · rw [e2] at hk
      injection hk with hk
      omega
  have ng : ∀ k, (Fm s go gn vi k ∧ k < w.heap.size) → some k ≠ vi.ownBlock := fun k hk => na k hk.1
  have ngo : ∀ k, Fm s go gn vj k → k ≠ go := fun k hk => hk.2.2.2.1
  have hi : ∀ k, (some k = vj.ownBlock ∧ w0.heap.size ≤ k) → k ≠ go := fun k hk => (own2 k hk.1.symm).2.2.2.1
  exact ⟨blk_far (blk_grown h.o hg (nb _ (.inl rfl))) (by show s + 1 + 1 ≠ go; omega) _, blk_far (blk_grown h.r hg (nb _ (.inr (.inl rfl)))) (by show s + 1 + 1 + 1 ≠ go; omega) _, blk_far (blk_grown h.q hg (nb _ (.inr (.inr (.inl rfl))))) (by show s + 1 + 1 + 1 + 1 ≠ go; omega) _,
    blk_put (cs := #[.int .i64 K, .int .u64 T, vi]) (blk_grown h.g hg (nb _ (.inr (.inr (.inr (.inl rfl)))))) 2 _ rfl, blk_far (blk_grown h.n hg (nb _ (.inr (.inr (.inr (.inr rfl)))))) (by show gn ≠ go; omega) _,
    Kd.V_far (Kd.V_mono (Kd.V_grown (Kd.V_bound h.x) hg ng) up) ngo _, Kd.V_far (Kd.V_mono (Kd.V_grown (Kd.V_bound h.y) hg ng) up) ngo _, Kd.V_far (Kd.V_mono (Kd.V_grown (Kd.V_bound h.v) hg ng) up) ngo _,
    Kd.R_mono (Kd.R_far (Kd.R_tight2 rfl ho) hi _) (fun k hk => hk.2), own2, h.ne, h.lo, hb.setCell (by have := h.lo; show w0.heap.size ≤ go; omega) _⟩
theorem Lq.appV (h : Lq w0 w s go gn K T AW cW l a0 Ax cx X Ay cy Y vi items A c a) {vj : Value} (hg : w.grownBy w1 vi.ownBlock) (hat : vj.ownBlock = vi.ownBlock ∨ ∃ b, vj.ownBlock = some b ∧ w.heap.size ≤ b)
    {A2 : Option Addr} {c2 : Nat} (hv : Kd.V (Kd.int .u64) 23 w 0 (Fm s go gn vi) (.slice A2 l.length c2) l) : Kd.V (Kd.int .u64) 23 (w1.setCell ⟨go, 2, none⟩ vj) 0 (Fm s go gn vj) (.slice A2 l.length c2) l := by
  have up : ∀ k, Fm s go gn vi k ∧ k < w.heap.size → Fm s go gn vj k := by
    intro k hk
    refine ⟨hk.1.1, hk.1.2.1, hk.1.2.2.1, hk.1.2.2.2.1, hk.1.2.2.2.2.1, fun e => ?_⟩
    rcases hat with e2 | ⟨b, e2, e3⟩
    · exact hk.1.2.2.2.2.2 (by rw [e, e2])
    · rw [e2] at e
      injection e with e
      have := hk.2
      omega
  have ng : ∀ k, (Fm s go gn vi k ∧ k < w.heap.size) → some k ≠ vi.ownBlock := fun k hk => hk.1.2.2.2.2.2
  have ngo : ∀ k, Fm s go gn vj k → k ≠ go := fun k hk => hk.2.2.2.1
  exact Kd.V_far (Kd.V_mono (Kd.V_grown (Kd.V_bound hv) hg ng) up) ngo _
theorem Lq.setx (h : Lq w0 w s go gn K T AW cW l a0 Ax cx X Ay cy Y vi items A c a) {A2 : Option Addr} {c2 : Nat} {X2 : List ByteArray} (hv : Kd.V Kd.string 9 w 0 (Fm s go gn vi) (.slice A2 X2.length c2) X2) : Lq w0 w s go gn K T AW cW l a0 A2 c2 X2 Ay cy Y vi items A c a :=
  ⟨h.o, h.r, h.q, h.g, h.n, hv, h.y, h.v, h.i, h.own, h.ne, h.lo, h.bel⟩
theorem Lq.sety (h : Lq w0 w s go gn K T AW cW l a0 Ax cx X Ay cy Y vi items A c a) {A2 : Option Addr} {c2 : Nat} {Y2 : List ByteArray} (hv : Kd.V Kd.string 9 w 0 (Fm s go gn vi) (.slice A2 Y2.length c2) Y2) : Lq w0 w s go gn K T AW cW l a0 Ax cx X A2 c2 Y2 vi items A c a :=
  ⟨h.o, h.r, h.q, h.g, h.n, h.x, hv, h.v, h.i, h.own, h.ne, h.lo, h.bel⟩
theorem Lq.next (h : Lq w0 w s go gn K T AW cW l a0 Ax cx X Ay cy Y vi items A c a) {A2 : Option Addr} {c2 : Nat} {b : Int} (hv : Kd.V (Kd.int .u64) 23 w 0 (Fm s go gn vi) (.slice A2 l.length c2) l) :
    Lq w0 ((w.setCell ⟨gn, 0, none⟩ (.slice A2 l.length c2)).setCell ⟨gn, 1, none⟩ (.int .i64 b)) s go gn K T AW cW l a0 Ax cx X Ay cy Y vi items A2 c2 b := by
  have h2 := h.ne
  have f1 : ∀ k, Fm s go gn vi k → k ≠ gn := fun k hk => hk.2.2.2.2.1
  have hi : ∀ k, (some k = vi.ownBlock ∧ w0.heap.size ≤ k) → k ≠ gn := fun k hk => (h.own k hk.1.symm).2.2.2.2
  have hl : w0.heap.size ≤ gn := by have := h.lo; omega
  exact ⟨blk_far (blk_far h.o (by show s + 1 + 1 ≠ gn; omega) _) (by show s + 1 + 1 ≠ gn; omega) _, blk_far (blk_far h.r (by show s + 1 + 1 + 1 ≠ gn; omega) _) (by show s + 1 + 1 + 1 ≠ gn; omega) _, blk_far (blk_far h.q (by show s + 1 + 1 + 1 + 1 ≠ gn; omega) _) (by show s + 1 + 1 + 1 + 1 ≠ gn; omega) _,
    blk_far (blk_far h.g (by show go ≠ gn; omega) _) (by show go ≠ gn; omega) _, put40 h.n _ _, Kd.V_far (Kd.V_far h.x f1 _) f1 _, Kd.V_far (Kd.V_far h.y f1 _) f1 _, Kd.V_far (Kd.V_far hv f1 _) f1 _,
    Kd.R_mono (Kd.R_far (Kd.R_far (Kd.R_tight2 rfl h.i) hi _) hi _) (fun k hk => hk.2), h.own, h.ne, h.lo, (h.bel.setCell hl _).setCell hl _⟩
end
theorem picked_two {er : Int} {F : Nat} {nx ny a : Int} {X Y : List ByteArray} {l : List Int} {t : Bool × Int × Int × Bool} (h : picked er F nx X ny Y l a = some t) :
    (t = (true, 0, a, false) ∧ draw_Below.f F l a (IntKind.u64.wrap (nx + ny)) = some (0, l, a, er)) ∨
    (∃ fst j b1, draw_Below.f F l a (IntKind.u64.wrap (nx + ny)) = some (j, l, b1, 0) ∧ decide (j < nx) = fst ∧
      ((∃ i b, t = (fst, i, b, true) ∧ draw_Below.f F l b1 ((if fst = true then X else Y).length : Int) = some (i, l, b, 0) ∧ 0 ≤ i ∧ i < (if fst = true then X else Y).length) ∨
       (t = (fst, 0, b1, false) ∧ draw_Below.f F l b1 ((if fst = true then X else Y).length : Int) = some (0, l, b1, er)))) := by
  rcases picked_ways h with ⟨j, b1, i, b, rfl, d1, hj, d2, hi0, hi⟩ | ⟨j, b1, i, b, rfl, d1, hj, d2, hi0, hi⟩ | ⟨rfl, d1⟩ | ⟨j, b1, rfl, d1, hj, d2⟩ | ⟨j, b1, rfl, d1, hj, d2⟩
  · exact .inr ⟨true, j, b1, d1, decide_eq_true hj, .inl ⟨i, b, rfl, d2, hi0, hi⟩⟩
  · exact .inr ⟨false, j, b1, d1, decide_eq_false hj, .inl ⟨i, b, rfl, d2, hi0, hi⟩⟩
  · exact .inl ⟨rfl, d1⟩
  · exact .inr ⟨true, j, b1, d1, decide_eq_true hj, .inr ⟨rfl, d2⟩⟩
  · exact .inr ⟨false, j, b1, d1, decide_eq_false hj, .inr ⟨rfl, d2⟩⟩
theorem wrap_less {x y T : Int} (h : IntKind.u64.wrap (x + y) = T) (hT : 1 ≤ T) : IntKind.u64.wrap (IntKind.u64.wrap (x - 1) + y) = T - 1 := by
  rw [IntKind.wrap_u64] at h
  rw [IntKind.wrap_u64, IntKind.wrap_u64]
  omega
theorem wrap_less2 {x y T : Int} (h : IntKind.u64.wrap (x + y) = T) (hT : 1 ≤ T) : IntKind.u64.wrap (x + IntKind.u64.wrap (y - 1)) = T - 1 := by
  rw [IntKind.wrap_u64] at h
  rw [IntKind.wrap_u64, IntKind.wrap_u64]
  omega
end Go.Proofs.Ythgacimoifbhiaa
