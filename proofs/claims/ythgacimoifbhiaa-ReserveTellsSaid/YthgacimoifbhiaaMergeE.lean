import Derived.Test.YthgacimoifbhiaaMgE
import Derived.Test.YthgacimoifbhiaaMergePE
import Derived.Deep.RegionWith
import Derived.Deep.RegionHeld3
import Derived.Deep.DrawnRows
import Derived.Deep.DeepCutAuto
namespace Go.Proofs.Ythgacimoifbhiaa
attribute [local go_sem ↓] Go.wp_at_zero Go.wp_at_succ
open Go.RowKit Go.Proofs.Ythgacimoifbhiaa.Q Go.Proofs.YthgacimoifbhiaaW.PrintWords Go.Proofs.YthgacimoifbhiaaW.PrintLast Go.Proofs.YthgacimoifbhiaaW.PrintMore
set_option linter.unusedVariables false
set_option linter.unusedSimpArgs false
abbrev sampleO (K N : Int) (v : Value) : Obj := .cells #[.int .i64 K, .int .u64 N, v] 26 (0, 0)
structure Bx (w : World) (s : Nat) (K N M : Int) (u v : Value) (x : Value) (t : Int) : Prop where
  a : w.heap[s]? = some (sampleO K N u)
  b : w.heap[s + 1]? = some (sampleO K M v)
  o : w.heap[s + 1 + 1]? = some (wordsO x t)
  r : w.heap[s + 1 + 1 + 1]? = some (sampleO 0 0 (.slice none 0 0))
  q : w.heap[s + 1 + 1 + 1 + 1]? = some (wordsO (.slice none 0 0) 0)
section
variable {w w1 : World} {s : Nat} {K N M a : Int} {u v x : Value}
theorem Bx.below (h : Bx w s K N M u v x a) (hb : Below w.heap.size w w1) : Bx w1 s K N M u v x a := ⟨blk_below h.a hb, blk_below h.b hb, blk_below h.o hb, blk_below h.r hb, blk_below h.q hb⟩
theorem size_push (w : World) (o : Obj) : (w.alloc o).heap.size = w.heap.size + 1 := by show (w.heap.push _).size = _; simp
theorem Bx.made (w : World) (K N M : Int) (u v x : Value) (a : Int) : Bx (((((w.alloc (sampleO K N u)).alloc (sampleO K M v)).alloc (wordsO x a)).alloc (sampleO 0 0 (.slice none 0 0))).alloc (wordsO (.slice none 0 0) 0)) w.heap.size K N M u v x a := by
  have n (w : World) (o : Obj) (k : Nat) (hk : k = w.heap.size) : (w.alloc o).heap[k]? = some o := by subst hk; exact Deep.blk_alloc_new w o
  exact ⟨blk_alloc (blk_alloc (blk_alloc (blk_alloc (n w _ _ rfl) _) _) _) _, blk_alloc (blk_alloc (blk_alloc (n _ _ _ (by rw [size_push])) _) _) _, blk_alloc (blk_alloc (n _ _ _ (by rw [size_push, size_push])) _) _,
    blk_alloc (n _ _ _ (by rw [size_push, size_push, size_push])) _, n _ _ _ (by rw [size_push, size_push, size_push, size_push])⟩
end
structure Sd2 (B : Nat) (w : World) (gx gy : Nat) (N M : Int) (v1 v2 : Value) (X Y : List ByteArray) : Prop where
  x : w.heap[gx]? = some (sideO N v1)
  y : w.heap[gy]? = some (sideO M v2)
  r : Kd.R Kd.string 9 w B (fun k => v1.ownBlock = some k) v1 X
  t : Kd.R Kd.string 9 w B (fun k => v2.ownBlock = some k) v2 Y
  xy : gx ≠ gy
  gh : ∀ k, v1.ownBlock = some k → ¬ v2.ownBlock = some k
  bx : B ≤ gx
  bY : B ≤ gy
section
variable {B : Nat} {w4 w5 w1 : World} {N M : Int} {v1 v2 : Value} {X Y : List ByteArray}
theorem ok_own {ok : Nat → Prop} {w : World} {v : Value} {xs : List ByteArray} (h : Kd.R Kd.string 9 w B ok v xs) : Kd.R Kd.string 9 w B (fun k => v.ownBlock = some k) v xs := Kd.R_reok rfl h (fun k hk => hk)
theorem sides1 (R1 : Kd.R Kd.string 9 w4 B (fun _ => True) v1 X) (hB : B ≤ w4.heap.size) (R2 : Kd.R Kd.string 9 w5 (w4.alloc (sideO N v1)).heap.size (fun _ => True) v2 Y) (C2 : Below (w4.alloc (sideO N v1)).heap.size (w4.alloc (sideO N v1)) w5) :
    Sd2 B (w5.alloc (sideO M v2)) w4.heap.size w5.heap.size N M v1 v2 X Y := by
  have hz := C2.size
  rw [size_push] at hz
  exact ⟨blk_alloc (blk_below (blk_new _ _) C2) _, blk_new _ _, ok_own (Kd.R_alloc (Kd.R_below (Kd.R_alloc R1 _) C2) _), ok_own (Kd.R_alloc (Kd.R_lower R2 (by rw [size_push]; omega)) _), by omega,
    fun k h1 h2 => by have := Kd.R_lt R1 k h1; have := Kd.R_base R2 k h2; rw [size_push] at this; omega, hB, by omega⟩
theorem sides2 (R1 : Kd.R Kd.string 9 w4 B (fun _ => True) v1 X) (hB : B ≤ w4.heap.size) (R2 : Kd.R Kd.string 9 w5 w4.heap.size (fun _ => True) v2 Y) (C2 : Below w4.heap.size w4 w5) :
    Sd2 B ((w5.alloc (sideO N v1)).alloc (sideO M v2)) w5.heap.size (w5.heap.size + 1) N M v1 v2 X Y := by
  have hz := C2.size
  exact ⟨blk_alloc (blk_new _ _) _, by rw [← size_push w5 (sideO N v1)]; exact blk_new _ _, ok_own (Kd.R_alloc (Kd.R_alloc (Kd.R_below R1 C2) _) _), ok_own (Kd.R_alloc (Kd.R_alloc (Kd.R_lower R2 hB) _) _), by omega,
    fun k h1 h2 => by have := Kd.R_lt R1 k h1; have := Kd.R_base R2 k h2; omega, by omega, by omega⟩
theorem sides3 (R1 : Kd.R Kd.string 9 w4 B (fun _ => True) v1 X) (hB : B ≤ w4.heap.size) (R2 : Kd.R Kd.string 9 w5 w4.heap.size (fun _ => True) v2 Y) (C2 : Below w4.heap.size w4 w5) :
    Sd2 B ((w5.alloc (sideO M v2)).alloc (sideO N v1)) (w5.heap.size + 1) w5.heap.size N M v1 v2 X Y := by
  have hz := C2.size
  exact ⟨by rw [← size_push w5 (sideO M v2)]; exact blk_new _ _, blk_alloc (blk_new _ _) _, ok_own (Kd.R_alloc (Kd.R_alloc (Kd.R_below R1 C2) _) _), ok_own (Kd.R_alloc (Kd.R_alloc (Kd.R_lower R2 hB) _) _), by omega,
    fun k h1 h2 => by have := Kd.R_lt R1 k h1; have := Kd.R_base R2 k h2; omega, by omega, by omega⟩
end
section
variable {W w w1 : World} {base gx gy gn c : Nat} {U G H P : Nat → Prop} {nx ny an a : Int} {X Y items : List ByteArray} {vi vn : Value} {A : Option Addr} {l : List Int}
theorem Mx.appended (h : Mx W w base gx gy gn U G H nx X ny Y vi items vn an) {vj : Value} {key : ByteArray} {ok : Nat → Prop} (hg : w.grownBy w1 vi.ownBlock) (ho : Kd.R Kd.string 9 w1 base ok vj (items ++ [key])) (hat : vj.ownBlock = vi.ownBlock ∨ ∃ b, vj.ownBlock = some b ∧ w.heap.size ≤ b) :
    Mx W w1 base gx gy gn U G H nx X ny Y vj (items ++ [key]) vn an := by
  have ne : ∀ k, Al gx gy gn U G H k → some k ≠ vi.ownBlock := fun k hk e => h.ig k e.symm hk
  refine ⟨?_, ?_, blk_grown h.o hg (ne _ (.inr (.inr (.inl rfl)))), ok_own ho, ?_, h.d, fun k hk => Nat.lt_of_lt_of_le (h.lt k hk) hg.size, ?_, h.bx⟩
  · obtain ⟨v, h1, h2⟩ := h.x
    exact ⟨v, blk_grown h1 hg (ne _ (.inl rfl)), Kd.R_grown h2 hg (fun k hk => ne k (.inr (.inr (.inr (.inr (.inl hk))))))⟩
  · obtain ⟨v, h1, h2⟩ := h.y
    exact ⟨v, blk_grown h1 hg (ne _ (.inr (.inl rfl))), Kd.R_grown h2 hg (fun k hk => ne k (.inr (.inr (.inr (.inr (.inr hk))))))⟩
  · exact fun k hk => (hg.block k (h.lt k (.inr (.inr (.inr (.inl hk))))) (ne k (.inr (.inr (.inr (.inl hk)))))).trans (h.k k hk)
  · intro k hk ha
    rcases hat with e | ⟨b, e, hb⟩
    · exact h.ig k (by rw [← e]; exact hk) ha
    · rw [e] at hk
      injection hk with hk
      subst hk
      have := h.lt _ ha
      omega
theorem Wd.appended (h : Wd w gx gy gn U G H vi A c l P) {vj : Value} (hg : w.grownBy w1 vi.ownBlock) (hat : vj.ownBlock = vi.ownBlock ∨ ∃ b, vj.ownBlock = some b ∧ w.heap.size ≤ b) :
    Wd w1 gx gy gn U G H vj A c l (fun k => P k ∧ k < w.heap.size) := by
  refine ⟨Kd.V_grown (Kd.V_bound h.v) hg (fun k hk e => (h.p k hk.1).2 e.symm), fun k hk => ⟨(h.p k hk.1).1, ?_⟩⟩
  intro e2
  rcases hat with e | ⟨b, e, hb⟩
  · exact (h.p k hk.1).2 (by rw [← e]; exact e2)
  · rw [e] at e2
    injection e2 with e2
    have := hk.2
    omega
theorem Mx.put (h : Mx W w base gx gy gn U G H nx X ny Y vi items vn an) (u : Value) (b : Int) :
    Mx W ((w.setCell ⟨gn, 0, none⟩ u).setCell ⟨gn, 1, none⟩ (.int .i64 b)) base gx gy gn U G H nx X ny Y vi items u b := by
  have hs : ((w.setCell ⟨gn, 0, none⟩ u).setCell ⟨gn, 1, none⟩ (.int .i64 b)).heap.size = w.heap.size := by simp [World.setCell]
  refine ⟨?_, ?_, blk_put (cs := #[u, .int .i64 an]) (blk_put (cs := #[vn, .int .i64 an]) h.o 0 _ rfl) 1 _ rfl, Kd.R_far (Kd.R_far h.i (fun k hk e => h.ig k hk (.inr (.inr (.inl e)))) _) (fun k hk e => h.ig k hk (.inr (.inr (.inl e)))) _, ?_, h.d, fun k hk => by rw [hs]; exact h.lt k hk, h.ig, h.bx⟩
  · obtain ⟨v, h1, h2⟩ := h.x
    exact ⟨v, blk_far (blk_far h1 h.d.xn _) h.d.xn _, Kd.R_far (Kd.R_far h2 (fun k hk => (h.d.g k hk).2.2.1) _) (fun k hk => (h.d.g k hk).2.2.1) _⟩
  · obtain ⟨v, h1, h2⟩ := h.y
    exact ⟨v, blk_far (blk_far h1 h.d.yn _) h.d.yn _, Kd.R_far (Kd.R_far h2 (fun k hk => (h.d.h k hk).2.2.1) _) (fun k hk => (h.d.h k hk).2.2.1) _⟩
  · exact fun k hk => ((Below.heap_setCell _ _ _ _ (h.d.u k hk).2.2).trans (Below.heap_setCell _ _ _ _ (h.d.u k hk).2.2)).trans (h.k k hk)
theorem Wd.put (h : Wd w gx gy gn U G H vi A c l P) (u v : Value) : Wd ((w.setCell ⟨gn, 0, none⟩ u).setCell ⟨gn, 1, none⟩ v) gx gy gn U G H vi A c l P :=
  ⟨Kd.V_far (Kd.V_far h.v (fun k hk e => (h.p k hk).1 (.inr (.inr (.inl e)))) _) (fun k hk e => (h.p k hk).1 (.inr (.inr (.inl e)))) _, h.p⟩
end
structure Ls (er : Int) (w W wr : World) (s gx gy gn : Nat) (U G H P : Nat → Prop) (F : Nat) (l : List Int) (m : Nat) (r : Option (List ByteArray × Int)) (j : Nat) (vi : Value) (nx : Int) (X : List ByteArray) (ny : Int) (Y items : List ByteArray) (A : Option Addr) (c : Nat) (a : Int) (P' : Nat → Prop) : Prop where
  st : Mx W wr s gx gy gn U G H nx X ny Y vi items (.slice A l.length c) a
  v : Wd wr gx gy gn U G H vi A c l P'
  p : ∀ k, P' k → P k ∨ s ≤ k
  b : Below s w wr
  r : rounds er F l (m - j) nx X ny Y a items = some r
  hx : X.length < 4611686018427387904
  hy : Y.length < 4611686018427387904
  hi : items.length = j
def Ub (s go k : Nat) : Prop := k = s + 1 + 1 ∨ k = s + 1 + 1 + 1 ∨ k = s + 1 + 1 + 1 + 1 ∨ k = go
def MPost (er : Int) (K N M : Int) (A : Option Addr) (c : Nat) (l : List Int) (a : Int) (P : Nat → Prop) (r : Option (List ByteArray × Int)) (w : World) (e : Ending) (w' : World) : Prop :=
  match r with
  | some (items, b) => ∃ v2 v3 : Value, e = .returned (.tuple #[.agg #[.int .i64 K, .int .u64 (IntKind.u64.wrap (N + M)), v2], .agg #[v3, .int .i64 b], .int .i64 0]) ∧ Kd.R Kd.string 9 w' w.heap.size (fun _ => True) v2 items ∧ Kd.V (Kd.int .u64) 23 w' w.heap.size (fun k => (P k ∨ w.heap.size ≤ k) ∧ some k ≠ v2.ownBlock) v3 l ∧ Below w.heap.size w w'
  | none => e = .returned (.tuple #[.agg #[.int .i64 0, .int .u64 0, .slice none 0 0], .agg #[.slice A l.length c, .int .i64 a], .int .i64 er]) ∧ Below w.heap.size w w'
theorem put26 {w : World} {g : Nat} {k n : Int} {v : Value} (h : w.heap[g]? = some (sampleO k n v)) (K N : Int) (u : Value) : (((w.setCell ⟨g, 0, none⟩ (.int .i64 K)).setCell ⟨g, 1, none⟩ (.int .u64 N)).setCell ⟨g, 2, none⟩ u).heap[g]? = some (sampleO K N u) :=
  blk_put (cs := #[.int .i64 K, .int .u64 N, v]) (blk_put (cs := #[.int .i64 K, .int .u64 n, v]) (blk_put (cs := #[.int .i64 k, .int .u64 n, v]) h 0 _ rfl) 1 _ rfl) 2 _ rfl
theorem put32 {w : World} {g : Nat} {a : Int} {v : Value} (h : w.heap[g]? = some (wordsO v a)) (u : Value) (b : Int) : ((w.setCell ⟨g, 0, none⟩ u).setCell ⟨g, 1, none⟩ (.int .i64 b)).heap[g]? = some (wordsO u b) :=
  blk_put (cs := #[u, .int .i64 a]) (blk_put (cs := #[v, .int .i64 a]) h 0 _ rfl) 1 _ rfl
theorem set5 {B : Nat} {w W : World} (h : Below B w W) {p1 p2 p3 p4 p5 : Addr} {u1 u2 u3 u4 u5 : Value} (h1 : B ≤ p1.block) (h2 : B ≤ p2.block) (h3 : B ≤ p3.block) (h4 : B ≤ p4.block) (h5 : B ≤ p5.block) :
    Below B w (((((W.setCell p1 u1).setCell p2 u2).setCell p3 u3).setCell p4 u4).setCell p5 u5) := ((((h.setCell h1 _).setCell h2 _).setCell h3 _).setCell h4 _).setCell h5 _
theorem held19 {w : World} {g k : Nat} {K N : Int} {u v : Value} {b : Int} (h : w.heap[g]? = some (sampleO K N u)) (h2 : w.heap[k]? = some (wordsO v b)) : w.cell? ⟨g, 0, none⟩ = some (.int .i64 K) ∧ w.cell? ⟨g, 1, none⟩ = some (.int .u64 N) ∧ w.cell? ⟨g, 2, none⟩ = some u ∧ w.cell? ⟨k, 0, none⟩ = some v ∧ w.cell? ⟨k, 1, none⟩ = some (.int .i64 b) :=
  ⟨(blk_cell h 0).trans rfl, (blk_cell h 1).trans rfl, (blk_cell h 2).trans rfl, (blk_cell h2 0).trans rfl, (blk_cell h2 1).trans rfl⟩
theorem held16 {w : World} {g : Nat} {v : Value} {b : Int} (h : w.heap[g]? = some (wordsO v b)) : w.cell? ⟨g, 0, none⟩ = some v ∧ w.cell? ⟨g, 1, none⟩ = some (.int .i64 b) := ⟨(blk_cell h 0).trans rfl, (blk_cell h 1).trans rfl⟩
theorem held8 {W w' : World} {s : Nat} {K N M a : Int} {u v x : Value} (S : Bx W s K N M u v x a) (h : Below W.heap.size W w') :
    w'.cell? ⟨s, 1, none⟩ = some (.int .u64 N) ∧ w'.cell? ⟨s, 2, none⟩ = some u ∧ w'.cell? ⟨s + 1, 1, none⟩ = some (.int .u64 M) ∧ w'.cell? ⟨s + 1, 2, none⟩ = some v ∧ Below W.heap.size W w' :=
  ⟨(blk_cell (S.below h).a 1).trans rfl, (blk_cell (S.below h).a 2).trans rfl, (blk_cell (S.below h).b 1).trans rfl, (blk_cell (S.below h).b 2).trans rfl, h⟩
set_option maxRecDepth 100000 in
set_option maxHeartbeats 4000000 in
theorem merge_walk {er : Int} (her : (er != 0) = true) (he7 : er ≠ 7) (K N M : Int) (A0 : Option Addr) (c0 : Nat) (X : List ByteArray) (A1 : Option Addr) (c1 : Nat) (Y : List ByteArray) (A : Option Addr) (c : Nat) (l : List Int) (a : Int) (P : Nat → Prop) (w : World)
    (h0 : Kd.C Kd.string w A0 X.length X) (hc0 : X.length ≤ c0) (h1 : Kd.C Kd.string w A1 Y.length Y) (hc1 : Y.length ≤ c1)
    (hR0 : reserve_Right.f K N X = some true) (hR1 : reserve_Right.f K M Y = some true) (hnw : IntKind.u64.wrap (N + M) ≤ 4611686018427387904) (hX : clone_.f X = some X) (hY : clone_.f Y = some Y) (hW : Kd.V (Kd.int .u64) 23 w w.heap.size P (.slice A l.length c) l) (hP : ∀ k, P k → k < w.heap.size)
    (hK1 : 1 ≤ K) (hK2 : K ≤ 1024) (hN0 : 0 ≤ N) (hM0 : 0 ≤ M) (hXl : X.length ≤ 1024) (hYl : Y.length ≤ 1024) (F : Nat) (r : Option (List ByteArray × Int)) (hr : rounds er F l (min K (IntKind.u64.wrap (N + M))).toNat N X M Y a [] = some r) :
    Calls Try.prog 19 #[.agg #[.int .i64 K, .int .u64 N, .slice A0 X.length c0], .agg #[.int .i64 K, .int .u64 M, .slice A1 Y.length c1], .agg #[.slice A l.length c, .int .i64 a]] w (MPost er K N M A c l a P r w) := by
  have hu26 := Try.underlying26
  have hu32 := Try.underlying32
  have hu64 := Try.underlying64
  have S0 := Aside0.mk (Bx.made w K N M (.slice A0 X.length c0) (.slice A1 Y.length c1) (.slice A l.length c) a)
  have HB0 := Aside0.mk (show Below w.heap.size w (((((w.alloc (sampleO K N (.slice A0 X.length c0))).alloc (sampleO K M (.slice A1 Y.length c1))).alloc (wordsO (.slice A l.length c) a)).alloc (sampleO 0 0 (.slice none 0 0))).alloc (wordsO (.slice none 0 0) 0)) from below_alloc (below_alloc (below_alloc (below_alloc (below_alloc (Below.refl _ _) _) _) _) _) _)
  go_enter Try.func19, Try.ntmps19
  go_upto_region 1 with (fail)
  obtain ⟨w0, hw0⟩ : ∃ w0, w0 = (((((w.alloc (sampleO K N (.slice A0 X.length c0))).alloc (sampleO K M (.slice A1 Y.length c1))).alloc (wordsO (.slice A l.length c) a)).alloc (sampleO 0 0 (.slice none 0 0))).alloc (wordsO (.slice none 0 0) 0)) := ⟨_, rfl⟩
  obtain ⟨s, hs⟩ : ∃ s, s = w.heap.size := ⟨_, rfl⟩
  rw [← hw0] at S0 HB0
  change Code.wp _ _ _ _ (((((w.alloc (sampleO K N (.slice A0 X.length c0))).alloc (sampleO K M (.slice A1 Y.length c1))).alloc (wordsO (.slice A l.length c) a)).alloc (sampleO 0 0 (.slice none 0 0))).alloc (wordsO (.slice none 0 0) 0))
  rw [← hw0, ← hs]
  rw [← hs] at S0
  clear hw0
  have HS := Aside0.mk hs
  clear hs
  have ha0 : w0.cell? ⟨s, 0, none⟩ = some (.int .i64 K) := (blk_cell S0.out.a 0).trans rfl
  have ha1 : w0.cell? ⟨s, 1, none⟩ = some (.int .u64 N) := (blk_cell S0.out.a 1).trans rfl
  have ha2 : w0.cell? ⟨s, 2, none⟩ = some (.slice A0 X.length c0) := (blk_cell S0.out.a 2).trans rfl
  go_upto_region 7 with (first
    | (go_at_call_of 17 (Value.agg #[.int .i64 K, .int .u64 N, .slice A0 X.length c0]); refine (reserve_Right.calls K N A0 c0 X true _ (Kd.C_below h0 HB0.out) hc0 hR0).mono ?_; rintro e w1 ⟨rfl, hb1⟩; have S1 := Aside0.mk (S0.out.below hb1); have HB1 := Aside0.mk (below_step HB0.out hb1); clear hb1 S0 HB0; have hb0 : w1.cell? ⟨s + 1, 0, none⟩ = some (.int .i64 K) := (blk_cell S1.out.b 0).trans rfl; have hb1 : w1.cell? ⟨s + 1, 1, none⟩ = some (.int .u64 M) := (blk_cell S1.out.b 1).trans rfl; have hb2 : w1.cell? ⟨s + 1, 2, none⟩ = some (.slice A1 Y.length c1) := (blk_cell S1.out.b 2).trans rfl)
    | (go_at_call 17; refine (reserve_Right.calls K M A1 c1 Y true _ (Kd.C_below h1 HB1.out) hc1 hR1).mono ?_; rintro e w2 ⟨rfl, hb⟩; have S2 := Aside0.mk (S1.out.below hb); have HB2 := Aside0.mk (below_step HB1.out hb); clear hb S1 HB1; have ha0 : w2.cell? ⟨s, 0, none⟩ = some (.int .i64 K) := (blk_cell S2.out.a 0).trans rfl; have ha1 : w2.cell? ⟨s, 1, none⟩ = some (.int .u64 N) := (blk_cell S2.out.a 1).trans rfl; have ha2 : w2.cell? ⟨s, 2, none⟩ = some (.slice A0 X.length c0) := (blk_cell S2.out.a 2).trans rfl; have hb0 : w2.cell? ⟨s + 1, 0, none⟩ = some (.int .i64 K) := (blk_cell S2.out.b 0).trans rfl; have hb1 : w2.cell? ⟨s + 1, 1, none⟩ = some (.int .u64 M) := (blk_cell S2.out.b 1).trans rfl; have hb2 : w2.cell? ⟨s + 1, 2, none⟩ = some (.slice A1 Y.length c1) := (blk_cell S2.out.b 2).trans rfl; have hdn : decide (IntKind.u64.wrap (N + M) > 4611686018427387904) = false := decide_eq_false (by omega)))
  go_upto_region 8 with (fail)
  obtain ⟨W, hW2⟩ : ∃ W, W = (w2.alloc (sampleO K (IntKind.u64.wrap (N + M)) (.slice none 0 0))) := ⟨_, rfl⟩
  have S3 := Aside0.mk (S2.out.below (show Below w2.heap.size w2 (w2.alloc (sampleO K (IntKind.u64.wrap (N + M)) (.slice none 0 0))) from below_alloc (Below.refl _ _) _))
  have HB3 := Aside0.mk (below_alloc HB2.out (sampleO K (IntKind.u64.wrap (N + M)) (.slice none 0 0)))
  have HO3 := Aside0.mk (blk_new w2 (sampleO K (IntKind.u64.wrap (N + M)) (.slice none 0 0)))
  obtain ⟨go, hgo⟩ : ∃ go, go = w2.heap.size := ⟨_, rfl⟩
  rw [← hW2] at S3 HB3 HO3
  rw [← hgo] at HO3
  change Code.wp _ _ _ _ (w2.alloc (sampleO K (IntKind.u64.wrap (N + M)) (.slice none 0 0)))
  rw [← hW2, ← hgo]
  have hGO := Aside0.mk (show s + 4 < go by have := blk_lt S2.out.q; omega)
  clear hgo hW2 S2 HB2 ha0 ha1 ha2 hb0 hb1 hb2
  have ha0 : W.cell? ⟨s, 0, none⟩ = some (.int .i64 K) := (blk_cell S3.out.a 0).trans rfl
  have ha1 : W.cell? ⟨s, 1, none⟩ = some (.int .u64 N) := (blk_cell S3.out.a 1).trans rfl
  have ha2 : W.cell? ⟨s, 2, none⟩ = some (.slice A0 X.length c0) := (blk_cell S3.out.a 2).trans rfl
  have hb1 : W.cell? ⟨s + 1, 1, none⟩ = some (.int .u64 M) := (blk_cell S3.out.b 1).trans rfl
  have hb2 : W.cell? ⟨s + 1, 2, none⟩ = some (.slice A1 Y.length c1) := (blk_cell S3.out.b 2).trans rfl
  go_cut [10, 11] (fun v10 v11 wc => ∃ (gx gy : Nat) (v1 v2 : Value), v10 = .pointer (some ⟨gx, 0, none⟩) ∧ v11 = .pointer (some ⟨gy, 0, none⟩) ∧ Aside0 (Sd2 W.heap.size wc gx gy N M v1 v2 X Y ∧ Below W.heap.size W wc))
  case first =>
    have B0 := Aside0.mk (Below.refl W.heap.size W)
    go_region_held3 (fun w' => w'.cell? ⟨s, 1, none⟩ = some (.int .u64 N) ∧ w'.cell? ⟨s, 2, none⟩ = some (.slice A0 X.length c0) ∧ w'.cell? ⟨s + 1, 1, none⟩ = some (.int .u64 M) ∧ w'.cell? ⟨s + 1, 2, none⟩ = some (.slice A1 Y.length c1) ∧ Below W.heap.size W w')
      ((refine held8 S3.out ?_; repeat (first | assumption | exact B0.out | exact B1.out | exact B2.out | apply below_alloc | apply below_drew1)))
      (first
      | (go_at_call_of 22 (Value.slice A0 X.length c0); (refine (clone_.calls A0 c0 X X _ ?s1 hc0 hX).mono ?_); (case s1 => exact Kd.C_below h0 (below_step HB3.out (by repeat (first | assumption | exact B0.out | apply below_alloc | apply below_drew1)))); rintro e w4 ⟨v1, rfl, hR1, hb1⟩; obtain ⟨D1, k1, rfl⟩ := Kd.R_slice hR1; have R1 := Aside0.mk hR1; have B1 := Aside0.mk (below_step (by repeat (first | assumption | exact B0.out | apply below_alloc | apply below_drew1) : Below W.heap.size W _) hb1); clear hR1 hb1)
      | (go_at_call 22; (refine (clone_.calls A1 c1 Y Y _ ?s1 hc1 hY).mono ?_); (case s1 => exact Kd.C_below h1 (below_step HB3.out (by repeat (first | assumption | exact B1.out | apply below_alloc | apply below_drew1)))); rintro e w5 ⟨v2, rfl, hR2, hb2⟩; obtain ⟨D2, k2, rfl⟩ := Kd.R_slice hR2; have R2 := Aside0.mk hR2; have B2 := Aside0.mk (below_step (by repeat (first | assumption | exact B1.out | apply below_alloc | apply below_drew1) : Below W.heap.size W _) hb2); have C2 := Aside0.mk hb2; clear hR2 hb2))
    all_goals
      go_wp2
      go_meet
    case rel => first
      | exact ⟨_, _, _, _, rfl, rfl, ⟨sides1 R1.out B1.out.size R2.out C2.out, below_alloc B2.out _⟩⟩
      | exact ⟨_, _, _, _, rfl, rfl, ⟨sides2 R1.out B1.out.size R2.out C2.out, below_alloc (below_alloc B2.out _) _⟩⟩
      | exact ⟨_, _, _, _, rfl, rfl, ⟨sides3 R1.out B1.out.size R2.out C2.out, below_alloc (below_alloc B2.out _) _⟩⟩
    case rel => first
      | exact ⟨_, _, _, _, rfl, rfl, ⟨sides1 R1.out B1.out.size R2.out C2.out, below_alloc B2.out _⟩⟩
      | exact ⟨_, _, _, _, rfl, rfl, ⟨sides2 R1.out B1.out.size R2.out C2.out, below_alloc (below_alloc B2.out _) _⟩⟩
      | exact ⟨_, _, _, _, rfl, rfl, ⟨sides3 R1.out B1.out.size R2.out C2.out, below_alloc (below_alloc B2.out _) _⟩⟩
    case rel => first
      | exact ⟨_, _, _, _, rfl, rfl, ⟨sides1 R1.out B1.out.size R2.out C2.out, below_alloc B2.out _⟩⟩
      | exact ⟨_, _, _, _, rfl, rfl, ⟨sides2 R1.out B1.out.size R2.out C2.out, below_alloc (below_alloc B2.out _) _⟩⟩
      | exact ⟨_, _, _, _, rfl, rfl, ⟨sides3 R1.out B1.out.size R2.out C2.out, below_alloc (below_alloc B2.out _) _⟩⟩
  case rest =>
    obtain ⟨gx, gy, v1, v2, rfl, rfl, T⟩ := hcut
    have S4 := Aside0.mk (S3.out.below T.out.2)
    have HO4 := Aside0.mk (blk_below HO3.out T.out.2)
    have ho0 : wc.cell? ⟨s + 1 + 1, 0, none⟩ = some (.slice A l.length c) := (blk_cell S4.out.o 0).trans rfl
    have ho1 : wc.cell? ⟨s + 1 + 1, 1, none⟩ = some (.int .i64 a) := (blk_cell S4.out.o 1).trans rfl
    clear ha0 ha1 ha2 hb1 hb2
    go_upto_region 11 with (fail)
    obtain ⟨W1, hW1⟩ : ∃ W1, W1 = wc.alloc (wordsO (.slice A l.length c) a) := ⟨_, rfl⟩
    have hsW : s + 1 + 1 + 1 + 1 < W.heap.size := blk_lt S3.out.q
    have hgW : go < W.heap.size := blk_lt HO3.out
    have hWc := T.out.2.size
    have hgxc := blk_lt T.out.1.x
    have hgyc := blk_lt T.out.1.y
    have b1 := T.out.1.bx
    have b2 := T.out.1.bY
    have hgo4 := hGO.out
    have M0 : Mx W1 W1 s gx gy wc.heap.size (Ub s go) (fun k => v1.ownBlock = some k) (fun k => v2.ownBlock = some k) N X M Y (.slice none 0 0) [] (.slice A l.length c) a := by
      subst hW1
      refine ⟨⟨_, blk_alloc T.out.1.x _, Kd.R_alloc (Kd.R_lower T.out.1.r (by omega)) _⟩, ⟨_, blk_alloc T.out.1.y _, Kd.R_alloc (Kd.R_lower T.out.1.t (by omega)) _⟩, blk_new _ _, Kd.R_nil _ _ _ _ _, fun _ _ => rfl, ⟨T.out.1.xy, by omega, by omega, ?_, ?_, ?_⟩, ?_, fun k hk => by simp [Value.ownBlock] at hk, ?_⟩
      · intro k hk
        unfold Ub at hk
        omega
      · intro k hk
        have h1 := Kd.R_lt T.out.1.r k hk
        have h2 := Kd.R_base T.out.1.r k hk
        have h3 := Kd.R_ne T.out.1.r T.out.1.x (by decide)
        have h4 := Kd.R_ne T.out.1.r T.out.1.y (by decide)
        refine ⟨fun e => h3 (by rw [← e]; exact hk.symm), fun e => h4 (by rw [← e]; exact hk.symm), by omega, ?_, T.out.1.gh k hk⟩
        unfold Ub
        omega
      · intro k hk
        have h1 := Kd.R_lt T.out.1.t k hk
        have h2 := Kd.R_base T.out.1.t k hk
        have h3 := Kd.R_ne T.out.1.t T.out.1.x (by decide)
        have h4 := Kd.R_ne T.out.1.t T.out.1.y (by decide)
        refine ⟨fun e => h3 (by rw [← e]; exact hk.symm), fun e => h4 (by rw [← e]; exact hk.symm), by omega, ?_⟩
        unfold Ub
        omega
      · intro k hk
        rw [size_push]
        rcases hk with e | e | e | e | e | e
        · omega
        · omega
        · omega
        · unfold Ub at e
          omega
        · have h1 := Kd.R_lt T.out.1.r k e
          omega
        · have h1 := Kd.R_lt T.out.1.t k e
          omega
      · intro k hk
        rcases hk with e | e | e | e | e | e
        · omega
        · omega
        · omega
        · unfold Ub at e
          omega
        · have h1 := Kd.R_base T.out.1.r k e
          omega
        · have h1 := Kd.R_base T.out.1.t k e
          omega
    have HBs : Below s w W1 := by
      rw [hW1, HS.out]
      exact below_alloc (below_step HB3.out T.out.2) _
    have D0 : Wd W1 gx gy wc.heap.size (Ub s go) (fun k => v1.ownBlock = some k) (fun k => v2.ownBlock = some k) (.slice none 0 0) A c l P := by
      refine ⟨Kd.V_below hW (HS.out ▸ HBs), fun k hk => ⟨fun e => ?_, by simp [Value.ownBlock]⟩⟩
      have h1 := M0.bx k e
      have h2 := hP k hk
      have h3 := HS.out
      omega
    have L0 := Aside0.mk (Ls.mk (er := er) (r := r) (F := F) (m := (min K (IntKind.u64.wrap (N + M))).toNat) (P := P) (j := 0) M0 D0 (fun k hk => .inl hk) HBs hr (by omega) (by omega) rfl)
    have SW := Aside0.mk (show W1.heap[s]? = some (sampleO K N (.slice A0 X.length c0)) ∧ W1.heap[s + 1 + 1]? = some (wordsO (.slice A l.length c) a) ∧ W1.heap[s + 1 + 1 + 1]? = some (sampleO 0 0 (.slice none 0 0)) ∧ W1.heap[s + 1 + 1 + 1 + 1]? = some (wordsO (.slice none 0 0) 0) ∧ W1.heap[go]? = some (sampleO K (IntKind.u64.wrap (N + M)) (.slice none 0 0)) from by
      subst hW1
      exact ⟨blk_alloc S4.out.a _, blk_alloc S4.out.o _, blk_alloc S4.out.r _, blk_alloc S4.out.q _, blk_alloc HO4.out _⟩)
    change Code.wp _ _ _ _ (wc.alloc (wordsO (.slice A l.length c) a))
    rw [← hW1]
    clear M0 D0 HBs hW1 ho0 ho1 hgxc hgyc b1 b2 hsW hgW hgo4 hWc S3 S4 HO3 HO4 hW hP hR0 hR1 hXl hYl hr
    generalize wc.heap.size = gn at *
    have ha0 : W1.cell? ⟨s, 0, none⟩ = some (.int .i64 K) := (blk_cell SW.out.1 0).trans rfl
    have hg1 : W1.cell? ⟨go, 1, none⟩ = some (.int .u64 (IntKind.u64.wrap (N + M))) := (blk_cell SW.out.2.2.2.2 1).trans rfl
    have hKw : IntKind.u64.wrap K = K := by rw [IntKind.wrap_u64]; omega
    obtain ⟨m, hm⟩ : ∃ m : Nat, min K (IntKind.u64.wrap (N + M)) = (m : Int) := ⟨(min K (IntKind.u64.wrap (N + M))).toNat, by
      have : 0 ≤ IntKind.u64.wrap (N + M) := by rw [IntKind.wrap_u64]; omega
      rw [Int.toNat_of_nonneg (by omega)]⟩
    have hm2 : m ≤ 1024 := by omega
    have hmt : (min K (IntKind.u64.wrap (N + M))).toNat = m := by rw [hm]; rfl
    rw [hmt] at L0
    clear hmt
    go_wp2_with (fail)
    clear ha0 hg1 hKw hm
    generalize hG : (fun k => v1.ownBlock = some k) = G at *
    generalize hH : (fun k => v2.ownBlock = some k) = H at *
    clear hG hH T
    go_loopw [13, 74] (fun v13 v74 wr => ∃ (j : Nat) (nx ny a' : Int) (X' Y' items : List ByteArray) (vi : Value) (A' : Option Addr) (c' : Nat) (P' : Nat → Prop), v13 = vi ∧ v74 = .int .u64 (j : Int) ∧ j ≤ m ∧ Aside0 (Ls er w W1 wr s gx gy gn (Ub s go) G H P F l m r j vi nx X' ny Y' items A' c' a' P')) (fun _ v74 _ => m - (intOf v74).toNat)
    case atStart => exact ⟨0, _, _, _, _, _, _, _, _, _, _, rfl, rfl, Nat.zero_le _, L0⟩
    case round =>
      obtain ⟨j, nx, ny, a', X', Y', items, vi, A', c', P', rfl, rfl, hjm, L⟩ := hrel
      clear L0
      by_cases hlt : j < m
      · have hlt2 : decide ((j : Int) < (m : Int)) = true := decide_eq_true (by omega)
        obtain ⟨d, hd⟩ : ∃ d, m - j = d + 1 := ⟨m - j - 1, by omega⟩
        have hr := L.out.r
        rw [hd] at hr
        obtain ⟨t, hp⟩ := rounds_some hr
        have hn0 : wr.cell? ⟨gn, 0, none⟩ = some (.slice A' l.length c') := (blk_cell L.out.st.o 0).trans rfl
        have hn1 : wr.cell? ⟨gn, 1, none⟩ = some (.int .i64 a') := (blk_cell L.out.st.o 1).trans rfl
        by_cases ht : t.2.2.2 = true
        · rw [rounds_yes hp ht] at hr
          have hle := after_length (nx := nx) (ny := ny) (t := t) L.out.hx L.out.hy
          have HC := Aside0.mk (pick_ok F W1 wr s gx gy gn c' (Ub s go) G H P' nx ny a' X' Y' items u13 A' l (.slice A' l.length c') a' L.out.st L.out.v L.out.hx L.out.hy t hp ht)
          have HR := Aside0.mk hr
          have HLE := Aside0.mk hle
          have HD := Aside0.mk hd
          clear hr hle hp ht hd
          generalize after nx X' ny Y' t = u at *
          obtain ⟨nx2, X2, ny2, Y2, key⟩ := u
          dsimp only at HC HR HLE
          generalize t.2.2.1 = b at *
          go_upto_region 16 with (go_at_call 27; refine (HC.out).mono ?_; rintro e w2 ⟨A2, c2, P2, rfl, hM2, hD2, hP2, hK2⟩; have M2 := Aside0.mk hM2; have D2 := Aside0.mk hD2; have PP2 := Aside0.mk hP2; have K2 := Aside0.mk hK2; clear hM2 hD2 hP2 hK2)
          have hb2 : Below s w w2 := Kt.below L.out.b K2.out (Nat.le_of_lt (Nat.lt_of_le_of_lt (L.out.st.bx gx (.inl rfl)) (L.out.st.lt gx (.inl rfl)))) (fun k hk => L.out.st.bx k hk)
          obtain ⟨w6, hw6⟩ : ∃ w6, w6 = w2.alloc (wordsO (.slice A2 l.length c2) b) := ⟨_, rfl⟩
          have M6 := Aside0.mk (M2.out.below (below_alloc (Below.refl _ _) (wordsO (.slice A2 l.length c2) b)))
          have D6 := Aside0.mk (D2.out.below (below_alloc (Below.refl _ _) (wordsO (.slice A2 l.length c2) b)))
          have B6 := Aside0.mk (show Below s w (w2.alloc (wordsO (.slice A2 l.length c2) b)) from hb2.alloc (Nat.le_of_lt (Nat.lt_of_le_of_lt (M2.out.bx gx (.inl rfl)) (M2.out.lt gx (.inl rfl)))) _)
          have V6 := Aside0.mk (blk_new w2 (wordsO (.slice A2 l.length c2) b))
          have hPs : ∀ k, P2 k → P k ∨ s ≤ k := fun k hk => (PP2.out k hk).elim (fun h => L.out.p k h) (fun h => .inr (Nat.le_trans (Nat.le_of_lt (Nat.lt_of_le_of_lt (L.out.st.bx gx (.inl rfl)) (L.out.st.lt gx (.inl rfl)))) h))
          have HPS := Aside0.mk hPs
          have HI := Aside0.mk L.out.hi
          have hgs := Aside0.mk (show gn ≠ w2.heap.size ∧ u13.ownBlock ≠ some w2.heap.size from ⟨fun e => by have := M2.out.lt gn (.inr (.inr (.inl rfl))); omega, fun e => by have := Kd.R_lt M2.out.i _ e; omega⟩)
          rw [← hw6] at M6 D6 B6 V6
          change Code.wp _ _ _ _ (w2.alloc (wordsO (.slice A2 l.length c2) b))
          rw [← hw6]
          have hgv := Aside0.mk (show w2.heap.size < w6.heap.size from blk_lt V6.out)
          clear hw6 hb2 hPs PP2 K2 M2 D2 L HC hn0 hn1 hlt2
          generalize w2.heap.size = gv at *
          have hsz : items.length + 1 ≤ 1024 := by have := HI.out; omega
          have hv0 : w6.cell? ⟨gv, 0, none⟩ = some (.slice A2 l.length c2) := (blk_cell V6.out 0).trans rfl
          have hv1 : w6.cell? ⟨gv, 1, none⟩ = some (.int .i64 b) := (blk_cell V6.out 1).trans rfl
          have hs6 := Aside0.mk (show s ≤ w6.heap.size from Nat.le_of_lt (Nat.lt_of_le_of_lt (M6.out.bx gx (.inl rfl)) (M6.out.lt gx (.inl rfl))))
          go_region_held3 (fun w' => w'.cell? ⟨gv, 0, none⟩ = some (.slice A2 l.length c2) ∧ w'.cell? ⟨gv, 1, none⟩ = some (.int .i64 b))
            ((refine held16 (?_ : _ = some (wordsO (.slice A2 l.length c2) b)); repeat (first | assumption | exact V7.out | exact V6.out | refine blk_far ?_ hgs.out.1.symm _ | refine blk_alloc ?_ _ | refine blk_drew ?_)))
            ((refine Kd.R_append_step Kd.string (w0 := w) (W := w6.drew) s (by rfl) (.tmp 89) (.tmp 91) 24 9 (.string ⟨#[]⟩) 16 (by rfl) Try.underlying24 info9 rfl (by decide) (by decide) u13 items key [.string key] (fun k_ => s ≤ k_) (fun _ => False) (by rfl) (by rfl) ?aP (fun _ hk => hk.elim) ?aF ?aO ?aB ?aS ?aL ?_;
              (case aP => exact rfl);
              (case aF => exact fun k_ hk => Nat.le_trans hs6.out hk);
              (case aO => exact Kd.R_drew (Kd.R_reok rfl M6.out.i (fun k hk => Kd.R_base M6.out.i k hk)));
              (case aB => exact B6.out.drew);
              (case aS => exact hs6.out);
              (case aL => omega);
              intro vj w7 ho hb hg hat;
              have M7 := Aside0.mk ((M6.out.below (below_drew (Below.refl _ _))).appended hg ho hat);
              have D7 := Aside0.mk ((D6.out.below (below_drew (Below.refl _ _))).appended hg hat);
              have B7 := Aside0.mk hb;
              have V7 := Aside0.mk (blk_grown (blk_drew V6.out) hg (fun e => hgs.out.2 e.symm));
              have hn0 : w7.cell? ⟨gn, 0, none⟩ = some (.slice A' l.length c') := (blk_cell M7.out.o 0).trans rfl;
              have hn1 : w7.cell? ⟨gn, 1, none⟩ = some (.int .i64 a') := (blk_cell M7.out.o 1).trans rfl;
              have hf0 := blk_frozen M7.out.o 0;
              have hf1 := blk_frozen M7.out.o 1;
              clear ho hb hg hat))
          all_goals
            go_wp2
            have hgn := M7.out.bx gn (.inr (.inr (.inl rfl)))
            refine ⟨⟨j + 1, nx2, ny2, b, X2, Y2, items ++ [key], vj, A2, c2, _, rfl, by go_num, by omega, ⟨⟨M7.out.put _ _, D7.out.put _ _, fun k hk => HPS.out k hk.1, (B7.out.setCell hgn _).setCell hgn _, ?_, HLE.out.1, HLE.out.2, by rw [List.length_append, HI.out]; rfl⟩⟩⟩, by simp [intOf]; omega⟩
            have e : m - (j + 1) = d := by have := HD.out; omega
            rw [e]
            exact HR.out
        · have ht2 : t.2.2.2 = false := by simpa using ht
          rw [rounds_no hp ht2] at hr
          obtain rfl : r = none := (Option.some.inj hr).symm
          have HC := Aside0.mk (pick_dry her he7 F W1 wr s gx gy gn c' (Ub s go) G H P' nx ny a' X' Y' items u13 A' l (.slice A' l.length c') a' L.out.st L.out.v L.out.hx L.out.hy t hp ht2)
          clear hp ht ht2 hd hr
          generalize t.2.2.1 = b at *
          go_upto_region 15 with (go_at_call 27; refine (HC.out).mono ?_; rintro e w2 ⟨A2, c2, rfl, hb2⟩; have M2 := Aside0.mk (L.out.st.below hb2); have B2 := Aside0.mk (L.out.b.trans (hb2.mono (Nat.le_of_lt (Nat.lt_of_le_of_lt (L.out.st.bx gx (.inl rfl)) (L.out.st.lt gx (.inl rfl)))))); clear hb2)
          obtain ⟨w6, hw6⟩ : ∃ w6, w6 = w2.alloc (wordsO (.slice A2 l.length c2) b) := ⟨_, rfl⟩
          have M6 := Aside0.mk (M2.out.below (below_alloc (Below.refl _ _) (wordsO (.slice A2 l.length c2) b)))
          have B6 := Aside0.mk (show Below s w (w2.alloc (wordsO (.slice A2 l.length c2) b)) from B2.out.alloc (Nat.le_of_lt (Nat.lt_of_le_of_lt (M2.out.bx gx (.inl rfl)) (M2.out.lt gx (.inl rfl)))) _)
          rw [← hw6] at M6 B6
          change Code.wp _ _ _ _ (w2.alloc (wordsO (.slice A2 l.length c2) b))
          rw [← hw6]
          clear hw6 M2 B2 L HC hn0 hn1 hlt2
          have q5 := (M6.out.k _ (.inl rfl)).trans SW.out.2.1
          have q6 := (M6.out.k _ (.inr (.inl rfl))).trans SW.out.2.2.1
          have q7 := (M6.out.k _ (.inr (.inr (.inl rfl)))).trans SW.out.2.2.2.1
          have h50 : w6.cell? ⟨s + 1 + 1, 0, none⟩ = some (.slice A l.length c) := (blk_cell q5 0).trans rfl
          have h51 : w6.cell? ⟨s + 1 + 1, 1, none⟩ = some (.int .i64 a) := (blk_cell q5 1).trans rfl
          have h60 : w6.cell? ⟨s + 1 + 1 + 1, 0, none⟩ = some (.int .i64 0) := (blk_cell q6 0).trans rfl
          have h61 : w6.cell? ⟨s + 1 + 1 + 1, 1, none⟩ = some (.int .u64 0) := (blk_cell q6 1).trans rfl
          have h62 : w6.cell? ⟨s + 1 + 1 + 1, 2, none⟩ = some (.slice none 0 0) := (blk_cell q6 2).trans rfl
          have h70 : w6.cell? ⟨s + 1 + 1 + 1 + 1, 0, none⟩ = some (.slice none 0 0) := (blk_cell q7 0).trans rfl
          have h71 : w6.cell? ⟨s + 1 + 1 + 1 + 1, 1, none⟩ = some (.int .i64 0) := (blk_cell q7 1).trans rfl
          have f60 := blk_frozen q6 0
          have f61 := blk_frozen q6 1
          have f62 := blk_frozen q6 2
          have f70 := blk_frozen q7 0
          have f71 := blk_frozen q7 1
          have Q6 := Aside0.mk q6
          have Q7 := Aside0.mk q7
          clear q5 q6 q7
          go_region_with (fail)
          all_goals
            go_wp2
            refine bodyPost_ret (results_list (rs := [.cell 6 26, .cell 7 32, .tmp 8]) rfl (by simp) (.cell (s + 1 + 1 + 1) 26 #[.int .i64 0, .int .u64 0, .slice none 0 0] (0, 0) _ rfl ?b6 Try.underlying26 rfl (by kernel_rfl) (.cell (s + 1 + 1 + 1 + 1) 32 #[.slice A l.length c, .int .i64 a] (0, 0) _ rfl ?b7 Try.underlying32 rfl (by kernel_rfl) (.tmp .nil)))) rfl ?post
            case b6 => first
              | exact blk_drew (blk_far (blk_far (put26 Q6.out 0 0 (.slice none 0 0)) (by simp) _) (by simp) _)
              | exact blk_drew (put26 (blk_far (blk_far Q6.out (by simp) _) (by simp) _) 0 0 (.slice none 0 0))
            case b7 => first
              | exact blk_drew (put32 (blk_far (blk_far (blk_far Q7.out (by simp) _) (by simp) _) (by simp) _) (.slice A l.length c) a)
              | exact blk_drew (blk_far (blk_far (blk_far (put32 Q7.out (.slice A l.length c) a) (by simp) _) (by simp) _) (by simp) _)
            case post =>
              refine ⟨rfl, ?_⟩
              rw [← HS.out]
              exact below_drew1 (set5 B6.out (by dsimp only; omega) (by dsimp only; omega) (by dsimp only; omega) (by dsimp only; omega) (by dsimp only; omega))
      · obtain rfl : j = m := by omega
        have hlt2 : decide ((j : Int) < (j : Int)) = false := decide_eq_false (by omega)
        have hr := L.out.r
        rw [Nat.sub_self] at hr
        obtain rfl : r = some (items, a') := (Option.some.inj hr).symm
        clear hr
        have qg := (L.out.st.k _ (.inr (.inr (.inr rfl)))).trans SW.out.2.2.2.2
        have h92 : wr.cell? ⟨go, 2, none⟩ = some (.slice none 0 0) := (blk_cell qg 2).trans rfl
        have f92 := blk_frozen qg 2
        obtain ⟨E0, ke, rfl⟩ := Kd.R_slice L.out.st.i
        have QG := Aside0.mk qg
        clear qg
        go_upto_region 19 with (fail)
        have hgg := hGO.out
        have I0 := Aside0.mk (show ∀ k, (Value.slice E0 items.length ke).ownBlock = some k → k ≠ go ∧ k ≠ s + 1 + 1 + 1 ∧ k ≠ s + 1 + 1 + 1 + 1 from fun k hk =>
          ⟨fun e => L.out.st.ig k hk (.inr (.inr (.inr (.inl (.inr (.inr (.inr e))))))), fun e => L.out.st.ig k hk (.inr (.inr (.inr (.inl (.inr (.inl e)))))), fun e => L.out.st.ig k hk (.inr (.inr (.inr (.inl (.inr (.inr (.inl e)))))))⟩)
        have P0 := Aside0.mk (show ∀ k, P' k → k ≠ go ∧ k ≠ s + 1 + 1 + 1 ∧ k ≠ s + 1 + 1 + 1 + 1 from fun k hk =>
          ⟨fun e => (L.out.v.p k hk).1 (.inr (.inr (.inr (.inl (.inr (.inr (.inr e))))))), fun e => (L.out.v.p k hk).1 (.inr (.inr (.inr (.inl (.inr (.inl e)))))), fun e => (L.out.v.p k hk).1 (.inr (.inr (.inr (.inl (.inr (.inr (.inl e)))))))⟩)
        have q9 : (wr.setCell ⟨go, 2, none⟩ (.slice E0 items.length ke)).heap[go]? = some (sampleO K (IntKind.u64.wrap (N + M)) (.slice E0 items.length ke)) := blk_put (cs := #[.int .i64 K, .int .u64 (IntKind.u64.wrap (N + M)), .slice none 0 0]) QG.out 2 _ rfl
        have ngo : gn ≠ go := fun e => (L.out.st.d.u go (.inr (.inr (.inr rfl)))).2.2 e.symm
        have qn : (wr.setCell ⟨go, 2, none⟩ (.slice E0 items.length ke)).heap[gn]? = some (wordsO (.slice A' l.length c') a') := blk_far L.out.st.o ngo _
        have q6 : (wr.setCell ⟨go, 2, none⟩ (.slice E0 items.length ke)).heap[s + 1 + 1 + 1]? = some (sampleO 0 0 (.slice none 0 0)) := blk_far ((L.out.st.k _ (.inr (.inl rfl))).trans SW.out.2.2.1) (by dsimp only; omega) _
        have q7 : (wr.setCell ⟨go, 2, none⟩ (.slice E0 items.length ke)).heap[s + 1 + 1 + 1 + 1]? = some (wordsO (.slice none 0 0) 0) := blk_far ((L.out.st.k _ (.inr (.inr (.inl rfl)))).trans SW.out.2.2.2.1) (by dsimp only; omega) _
        have hgn6 := Aside0.mk (show gn ≠ s + 1 + 1 + 1 ∧ gn ≠ s + 1 + 1 + 1 + 1 from ⟨fun e => (L.out.st.d.u _ (.inr (.inl rfl))).2.2 e.symm, fun e => (L.out.st.d.u _ (.inr (.inr (.inl rfl)))).2.2 e.symm⟩)
        have B8 := Aside0.mk (show Below s w (wr.setCell ⟨go, 2, none⟩ (.slice E0 items.length ke)) from L.out.b.setCell (by dsimp only; omega) _)
        have R8 := Aside0.mk (Kd.R_far L.out.st.i (p := ⟨go, 2, none⟩) (fun k hk => (I0.out k hk).1) (.slice E0 items.length ke))
        have V8 := Aside0.mk (Kd.V_far L.out.v.v (p := ⟨go, 2, none⟩) (fun k hk => (P0.out k hk).1) (.slice E0 items.length ke))
        have PX := Aside0.mk (show ∀ k, P' k → (P k ∨ w.heap.size ≤ k) ∧ some k ≠ (Value.slice E0 items.length ke).ownBlock from fun k hk => ⟨(L.out.p k hk).imp id (fun h => by have := HS.out; omega), fun e => (L.out.v.p k hk).2 e.symm⟩)
        generalize wr.setCell ⟨go, 2, none⟩ (.slice E0 items.length ke) = w8 at *
        clear L h92 f92 QG hlt2 ngo
        have h90 : w8.cell? ⟨go, 0, none⟩ = some (.int .i64 K) := (blk_cell q9 0).trans rfl
        have h91 : w8.cell? ⟨go, 1, none⟩ = some (.int .u64 (IntKind.u64.wrap (N + M))) := (blk_cell q9 1).trans rfl
        have h92 : w8.cell? ⟨go, 2, none⟩ = some (.slice E0 items.length ke) := (blk_cell q9 2).trans rfl
        have hn0 : w8.cell? ⟨gn, 0, none⟩ = some (.slice A' l.length c') := (blk_cell qn 0).trans rfl
        have hn1 : w8.cell? ⟨gn, 1, none⟩ = some (.int .i64 a') := (blk_cell qn 1).trans rfl
        have h60 : w8.cell? ⟨s + 1 + 1 + 1, 0, none⟩ = some (.int .i64 0) := (blk_cell q6 0).trans rfl
        have h61 : w8.cell? ⟨s + 1 + 1 + 1, 1, none⟩ = some (.int .u64 0) := (blk_cell q6 1).trans rfl
        have h62 : w8.cell? ⟨s + 1 + 1 + 1, 2, none⟩ = some (.slice none 0 0) := (blk_cell q6 2).trans rfl
        have h70 : w8.cell? ⟨s + 1 + 1 + 1 + 1, 0, none⟩ = some (.slice none 0 0) := (blk_cell q7 0).trans rfl
        have h71 : w8.cell? ⟨s + 1 + 1 + 1 + 1, 1, none⟩ = some (.int .i64 0) := (blk_cell q7 1).trans rfl
        have f60 := blk_frozen q6 0
        have f61 := blk_frozen q6 1
        have f62 := blk_frozen q6 2
        have f70 := blk_frozen q7 0
        have f71 := blk_frozen q7 1
        have Q6 := Aside0.mk q6
        have Q7 := Aside0.mk q7
        have Q9 := Aside0.mk q9
        have QN := Aside0.mk qn
        clear q6 q7 q9 qn
        have ng6 : gn ≠ s + 1 + 1 + 1 := fun e => hgn6.out.1 e
        have ng7 : gn ≠ s + 1 + 1 + 1 + 1 := fun e => hgn6.out.2 e
        go_region_held3 (fun w' => w'.cell? ⟨go, 0, none⟩ = some (.int .i64 K) ∧ w'.cell? ⟨go, 1, none⟩ = some (.int .u64 (IntKind.u64.wrap (N + M))) ∧ w'.cell? ⟨go, 2, none⟩ = some (.slice E0 items.length ke) ∧ w'.cell? ⟨gn, 0, none⟩ = some (.slice A' l.length c') ∧ w'.cell? ⟨gn, 1, none⟩ = some (.int .i64 a'))
          ((refine held19 (?_ : _ = some (sampleO K (IntKind.u64.wrap (N + M)) (.slice E0 items.length ke))) (?_ : _ = some (wordsO (.slice A' l.length c') a')) <;> repeat (with_reducible first | exact Q9.out | exact QN.out | refine blk_drew ?_ | refine blk_far ?_ (by dsimp only; omega) _)))
          (fail)
        all_goals
          go_wp2
          refine bodyPost_ret (results_list (rs := [.cell 6 26, .cell 7 32, .tmp 8]) rfl (by simp) (.cell (s + 1 + 1 + 1) 26 #[.int .i64 K, .int .u64 (IntKind.u64.wrap (N + M)), .slice E0 items.length ke] (0, 0) _ rfl ?b6 Try.underlying26 rfl (by kernel_rfl) (.cell (s + 1 + 1 + 1 + 1) 32 #[.slice A' l.length c', .int .i64 a'] (0, 0) _ rfl ?b7 Try.underlying32 rfl (by kernel_rfl) (.tmp .nil)))) rfl ?post
          case b6 => first
            | exact blk_drew (blk_far (blk_far (put26 Q6.out K (IntKind.u64.wrap (N + M)) (.slice E0 items.length ke)) (by simp) _) (by simp) _)
            | exact blk_drew (put26 (blk_far (blk_far Q6.out (by simp) _) (by simp) _) K (IntKind.u64.wrap (N + M)) (.slice E0 items.length ke))
          case b7 => first
            | exact blk_drew (put32 (blk_far (blk_far (blk_far Q7.out (by simp) _) (by simp) _) (by simp) _) (.slice A' l.length c') a')
            | exact blk_drew (blk_far (blk_far (blk_far (put32 Q7.out (.slice A' l.length c') a') (by simp) _) (by simp) _) (by simp) _)
          case post =>
            have h6 : ∀ k, (Value.slice E0 items.length ke).ownBlock = some k → k ≠ s + 1 + 1 + 1 := fun k hk => (I0.out k hk).2.1
            have h7 : ∀ k, (Value.slice E0 items.length ke).ownBlock = some k → k ≠ s + 1 + 1 + 1 + 1 := fun k hk => (I0.out k hk).2.2
            have g6 : ∀ k, P' k → k ≠ s + 1 + 1 + 1 := fun k hk => (P0.out k hk).2.1
            have g7 : ∀ k, P' k → k ≠ s + 1 + 1 + 1 + 1 := fun k hk => (P0.out k hk).2.2
            refine ⟨_, _, rfl, ?_, ?_, ?_⟩
            · rw [← HS.out]
              first
                | exact Kd.R_mono (Kd.R_drew (Kd.R_far (Kd.R_far (Kd.R_far (Kd.R_far (Kd.R_far R8.out h6 _) h6 _) h6 _) h7 _) h7 _)) (fun _ _ => trivial)
                | exact Kd.R_mono (Kd.R_drew (Kd.R_far (Kd.R_far (Kd.R_far (Kd.R_far (Kd.R_far R8.out h7 _) h7 _) h6 _) h6 _) h6 _)) (fun _ _ => trivial)
            · first
                | exact Kd.V_mono (Kd.V_drew (Kd.V_far (Kd.V_far (Kd.V_far (Kd.V_far (Kd.V_far V8.out g6 _) g6 _) g6 _) g7 _) g7 _)) PX.out
                | exact Kd.V_mono (Kd.V_drew (Kd.V_far (Kd.V_far (Kd.V_far (Kd.V_far (Kd.V_far V8.out g7 _) g7 _) g6 _) g6 _) g6 _)) PX.out
            · rw [← HS.out]
              exact below_drew1 (set5 B8.out (by dsimp only; omega) (by dsimp only; omega) (by dsimp only; omega) (by dsimp only; omega) (by dsimp only; omega))
end Go.Proofs.Ythgacimoifbhiaa
