import Derived.Test.YthgacimoifbhiaaMgE
import Derived.Test.YthgacimoifbhiaaPick
import Derived.Test.YthgacimoifbhiaaPickB
import Derived.Test.YthgacimoifbhiaaPickNoE
import Derived.Test.YthgacimoifbhiaaPickANoE
import Derived.Test.YthgacimoifbhiaaPickBNoE
namespace Go.Proofs.Ythgacimoifbhiaa
open Go.RowKit Go.Proofs.Ythgacimoifbhiaa.Q Go.Proofs.YthgacimoifbhiaaW.PrintWords Go.Proofs.YthgacimoifbhiaaW.PrintLast Go.Proofs.YthgacimoifbhiaaW.PrintMore
set_option linter.unusedVariables false
structure Ds (gx gy gn : Nat) (U G H : Nat → Prop) : Prop where
  xy : gx ≠ gy
  xn : gx ≠ gn
  yn : gy ≠ gn
  u : ∀ k, U k → k ≠ gx ∧ k ≠ gy ∧ k ≠ gn
  g : ∀ k, G k → k ≠ gx ∧ k ≠ gy ∧ k ≠ gn ∧ ¬ U k ∧ ¬ H k
  h : ∀ k, H k → k ≠ gx ∧ k ≠ gy ∧ k ≠ gn ∧ ¬ U k
def Al (gx gy gn : Nat) (U G H : Nat → Prop) (k : Nat) : Prop := k = gx ∨ k = gy ∨ k = gn ∨ U k ∨ G k ∨ H k
structure Mx (W w : World) (base gx gy gn : Nat) (U G H : Nat → Prop) (nx : Int) (X : List ByteArray) (ny : Int) (Y : List ByteArray) (vi : Value) (items : List ByteArray) (vn : Value) (an : Int) : Prop where
  x : ∃ v, w.heap[gx]? = some (sideO nx v) ∧ Kd.R Kd.string 9 w base G v X
  y : ∃ v, w.heap[gy]? = some (sideO ny v) ∧ Kd.R Kd.string 9 w base H v Y
  o : w.heap[gn]? = some (wordsO vn an)
  i : Kd.R Kd.string 9 w base (fun k => vi.ownBlock = some k) vi items
  k : ∀ k, U k → w.heap[k]? = W.heap[k]?
  d : Ds gx gy gn U G H
  lt : ∀ k, Al gx gy gn U G H k → k < w.heap.size
  ig : ∀ k, vi.ownBlock = some k → ¬ Al gx gy gn U G H k
  bx : ∀ k, Al gx gy gn U G H k → base ≤ k
structure Wd (w : World) (gx gy gn : Nat) (U G H : Nat → Prop) (vi : Value) (A : Option Addr) (c : Nat) (l : List Int) (P : Nat → Prop) : Prop where
  v : Kd.V (Kd.int .u64) 23 w w.heap.size P (.slice A l.length c) l
  p : ∀ k, P k → ¬ Al gx gy gn U G H k ∧ vi.ownBlock ≠ some k
section
variable {W w w1 : World} {base gx gy gn c : Nat} {U G H P : Nat → Prop} {nx ny an a : Int} {X Y items : List ByteArray} {vi vn : Value} {A : Option Addr} {l : List Int}
theorem Mx.below (h : Mx W w base gx gy gn U G H nx X ny Y vi items vn an) (hb : Below w.heap.size w w1) : Mx W w1 base gx gy gn U G H nx X ny Y vi items vn an :=
  ⟨by obtain ⟨v, h1, h2⟩ := h.x; exact ⟨v, blk_below h1 hb, Kd.R_below h2 hb⟩, by obtain ⟨v, h1, h2⟩ := h.y; exact ⟨v, blk_below h1 hb, Kd.R_below h2 hb⟩, blk_below h.o hb, Kd.R_below h.i hb,
   fun k hk => (hb.block k (h.lt k (.inr (.inr (.inr (.inl hk)))))).trans (h.k k hk), h.d, fun k hk => Nat.lt_of_lt_of_le (h.lt k hk) hb.size, h.ig, h.bx⟩
theorem Wd.below (h : Wd w gx gy gn U G H vi A c l P) (hb : Below w.heap.size w w1) : Wd w1 gx gy gn U G H vi A c l P := ⟨Kd.V_below h.v hb, h.p⟩
theorem Mx.ofA (h : Mx W w base gx gy gn U G H nx X ny Y vi items vn an) {g : Nat} (hg : G g) (K : Kt w w1 (fun k => k = gx ∨ k = g)) {nx' : Int} {X' : List ByteArray} {v : Value} (hx : w1.heap[gx]? = some (sideO nx' v)) (hr : Kd.R Kd.string 9 w1 base G v X') :
    Mx W w1 base gx gy gn U G H nx' X' ny Y vi items vn an := by
  have nk : ∀ k, k ≠ gx → ¬ G k → ¬ (k = gx ∨ k = g) := fun k h1 h2 h3 => h3.elim h1 (fun e => h2 (e ▸ hg))
  refine ⟨⟨v, hx, hr⟩, ?_, ?_, ?_, ?_, h.d, fun k hk => Nat.lt_of_lt_of_le (h.lt k hk) K.kept.1, h.ig, h.bx⟩
  · obtain ⟨v2, h1, h2⟩ := h.y
    exact ⟨v2, blk_kept h1 K.kept (nk _ h.d.xy.symm (fun e => (h.d.g _ e).2.1 rfl)), Kd.R_step h2 (fun k hk hlt => K.kept.2 k hlt (nk k (h.d.h k hk).1 (fun e => (h.d.g k e).2.2.2.2 hk)))⟩
  · exact blk_kept h.o K.kept (nk _ h.d.xn.symm (fun e => (h.d.g _ e).2.2.1 rfl))
  · exact Kd.R_step h.i (fun k hk hlt => K.kept.2 k hlt (nk k (fun e => h.ig k hk (.inl e)) (fun e => h.ig k hk (.inr (.inr (.inr (.inr (.inl e))))))))
  · exact fun k hk => (K.kept.2 k (h.lt k (.inr (.inr (.inr (.inl hk))))) (nk k (h.d.u k hk).1 (fun e => (h.d.g k e).2.2.2.1 hk))).trans (h.k k hk)
theorem Mx.ofB (h : Mx W w base gx gy gn U G H nx X ny Y vi items vn an) {g : Nat} (hg : H g) (K : Kt w w1 (fun k => k = gy ∨ k = g)) {ny' : Int} {Y' : List ByteArray} {v : Value} (hy : w1.heap[gy]? = some (sideO ny' v)) (hr : Kd.R Kd.string 9 w1 base H v Y') :
    Mx W w1 base gx gy gn U G H nx X ny' Y' vi items vn an := by
  have nk : ∀ k, k ≠ gy → ¬ H k → ¬ (k = gy ∨ k = g) := fun k h1 h2 h3 => h3.elim h1 (fun e => h2 (e ▸ hg))
  refine ⟨?_, ⟨v, hy, hr⟩, ?_, ?_, ?_, h.d, fun k hk => Nat.lt_of_lt_of_le (h.lt k hk) K.kept.1, h.ig, h.bx⟩
  · obtain ⟨v2, h1, h2⟩ := h.x
    exact ⟨v2, blk_kept h1 K.kept (nk _ h.d.xy (fun e => (h.d.h _ e).1 rfl)), Kd.R_step h2 (fun k hk hlt => K.kept.2 k hlt (nk k (h.d.g k hk).2.1 (h.d.g k hk).2.2.2.2))⟩
  · exact blk_kept h.o K.kept (nk _ h.d.yn.symm (fun e => (h.d.h _ e).2.2.1 rfl))
  · exact Kd.R_step h.i (fun k hk hlt => K.kept.2 k hlt (nk k (fun e => h.ig k hk (.inr (.inl e))) (fun e => h.ig k hk (.inr (.inr (.inr (.inr (.inr e))))))))
  · exact fun k hk => (K.kept.2 k (h.lt k (.inr (.inr (.inr (.inl hk))))) (nk k (h.d.u k hk).2.1 (fun e => (h.d.h k e).2.2.2 hk))).trans (h.k k hk)
theorem Wd.of (M : Mx W w base gx gy gn U G H nx X ny Y vi items vn an) {P' : Nat → Prop} {A' : Option Addr} {c' : Nat} (hs : w.heap.size ≤ w1.heap.size) (hP : ∀ k, P' k → (¬ Al gx gy gn U G H k ∧ vi.ownBlock ≠ some k) ∨ w.heap.size ≤ k) (hv : Kd.V (Kd.int .u64) 23 w1 w.heap.size P' (.slice A' l.length c') l) : Wd w1 gx gy gn U G H vi A' c' l P' :=
  ⟨hv, fun k hk => (hP k hk).elim id (fun hle => ⟨fun e => by have := M.lt k e; omega, fun e => by have := Kd.R_lt M.i k e; omega⟩)⟩
end
def after (nx : Int) (X : List ByteArray) (ny : Int) (Y : List ByteArray) (t : Bool × Int × Int × Bool) : Int × List ByteArray × Int × List ByteArray × ByteArray :=
  if t.1 = true then (IntKind.u64.wrap (nx - 1), Q.leftOf X t.2.1, ny, Y, rdOf ByteArray.empty X t.2.1) else (nx, X, IntKind.u64.wrap (ny - 1), Q.leftOf Y t.2.1, rdOf ByteArray.empty Y t.2.1)
theorem rounds_yes {er : Int} {F : Nat} {l : List Int} {m : Nat} {nx ny a : Int} {X Y items : List ByteArray} {t : Bool × Int × Int × Bool} (hp : picked er F nx X ny Y l a = some t) (ht : t.2.2.2 = true) :
    rounds er F l (m + 1) nx X ny Y a items = rounds er F l m (after nx X ny Y t).1 (after nx X ny Y t).2.1 (after nx X ny Y t).2.2.1 (after nx X ny Y t).2.2.2.1 t.2.2.1 (items ++ [(after nx X ny Y t).2.2.2.2]) := by
  simp only [rounds, hp, Option.bind_some]
  rw [if_pos ht]
  unfold after
  split <;> rfl
theorem rounds_no {er : Int} {F : Nat} {l : List Int} {m : Nat} {nx ny a : Int} {X Y items : List ByteArray} {t : Bool × Int × Int × Bool} (hp : picked er F nx X ny Y l a = some t) (ht : t.2.2.2 = false) :
    rounds er F l (m + 1) nx X ny Y a items = some none := by
  simp only [rounds, hp, Option.bind_some]
  rw [if_neg (by rw [ht]; decide)]
theorem rounds_some {er : Int} {F : Nat} {l : List Int} {m : Nat} {nx ny a : Int} {X Y items : List ByteArray} {r : Option (List ByteArray × Int)} (h : rounds er F l (m + 1) nx X ny Y a items = some r) : ∃ t, picked er F nx X ny Y l a = some t := by
  simp only [rounds] at h
  obtain ⟨t, e, _⟩ := Option.bind_eq_some_iff.1 h
  exact ⟨t, e⟩
theorem leftOf_length (X : List ByteArray) (i : Int) : (Q.leftOf X i).length = X.length - 1 := by
  unfold Q.leftOf; rw [List.length_take, List.length_set]; omega
theorem after_length {nx ny : Int} {X Y : List ByteArray} {t : Bool × Int × Int × Bool} {N : Nat} (h1 : X.length < N) (h2 : Y.length < N) : (after nx X ny Y t).2.1.length < N ∧ (after nx X ny Y t).2.2.2.1.length < N := by
  unfold after
  split
  · exact ⟨by show (Q.leftOf _ _).length < N; rw [leftOf_length]; omega, h2⟩
  · exact ⟨h1, by show (Q.leftOf _ _).length < N; rw [leftOf_length]; omega⟩
theorem below_pos {er : Int} (he7 : er ≠ 7) {F : Nat} {l : List Int} {a : Int} {n : Nat} (h : draw_Below.f F l a (n : Int) = some (0, l, a, er)) : 0 < n := by
  rcases Nat.eq_zero_or_pos n with e | e
  · subst e
    unfold draw_Below.f at h
    rw [if_pos (by rfl)] at h
    simp at h
    exact absurd h.symm he7
  · exact e
theorem pick_ok {er : Int} (F : Nat) (W w : World) (base gx gy gn c : Nat) (U G H P : Nat → Prop) (nx ny a : Int) (X Y items : List ByteArray) (vi : Value) (A : Option Addr) (l : List Int) (vn : Value) (an : Int)
    (M : Mx W w base gx gy gn U G H nx X ny Y vi items vn an) (V : Wd w gx gy gn U G H vi A c l P) (h1 : X.length < 4611686018427387904) (h2 : Y.length < 4611686018427387904)
    (t : Bool × Int × Int × Bool) (hp : picked er F nx X ny Y l a = some t) (ht : t.2.2.2 = true) :
    Calls Try.prog 27 #[.pointer (some ⟨gx, 0, none⟩), .pointer (some ⟨gy, 0, none⟩), .agg #[.slice A l.length c, .int .i64 a]] w fun e w' =>
      ∃ (A' : Option Addr) (c' : Nat) (P' : Nat → Prop), e = .returned (.tuple #[.string (after nx X ny Y t).2.2.2.2, .agg #[.slice A' l.length c', .int .i64 t.2.2.1], .int .i64 0]) ∧
        Mx W w' base gx gy gn U G H (after nx X ny Y t).1 (after nx X ny Y t).2.1 (after nx X ny Y t).2.2.1 (after nx X ny Y t).2.2.2.1 vi items vn an ∧ Wd w' gx gy gn U G H vi A' c' l P' ∧ (∀ k, P' k → P k ∨ w.heap.size ≤ k) ∧ Kt w w' (Al gx gy gn U G H) := by
  have hV := Kd.V_bound V.v
  rcases picked_ways hp with ⟨j, b1, i, b, rfl, d1, hj, d2, hi0, hi⟩ | ⟨j, b1, i, b, rfl, d1, hj, d2, hi0, hi⟩ | ⟨rfl, d1⟩ | ⟨j, b1, rfl, d1, hj, d2⟩ | ⟨j, b1, rfl, d1, hj, d2⟩
  · obtain ⟨v, hx, hr⟩ := M.x
    obtain ⟨vy, hy, _⟩ := M.y
    obtain ⟨g, cap, rfl, _, _, _⟩ := Kd.R_form hr (by omega)
    have hg : G g := hr.1 g rfl
    refine (pick_a F gx g cap gy nx ny vy X base G (fun k => P k ∧ k < w.heap.size) A c l a j b1 i b w hx hy hr h1 hV (fun k hk => ⟨fun e => (V.p k hk.1).1 (.inl e), fun e => (V.p k hk.1).1 (e ▸ .inr (.inr (.inr (.inr (.inl hg))))), hk.2⟩) d1 hj d2 hi0 hi).mono ?_
    rintro e w' ⟨v1, rfl, hv, hx', hr', hk⟩
    obtain ⟨A', c', rfl⟩ := Kd.V_slice hv
    exact ⟨A', c', _, rfl, M.ofA hg hk hx' hr', Wd.of M hk.kept.1 (fun k hk2 => hk2.elim (fun h => .inl (V.p k h.1)) .inr) hv, fun k hk2 => hk2.elim (fun h => .inl h.1) .inr,
      ⟨Kept.mono hk.kept (fun k e => e.elim .inl (fun e => e ▸ .inr (.inr (.inr (.inr (.inl hg)))))), hk.os, hk.tape, hk.output⟩⟩
  · obtain ⟨vx, hx, _⟩ := M.x
    obtain ⟨v, hy, hr⟩ := M.y
    obtain ⟨g, cap, rfl, _, _, _⟩ := Kd.R_form hr (by omega)
    have hg : H g := hr.1 g rfl
    refine (pick_b F gy g cap gx ny nx vx Y base H (fun k => P k ∧ k < w.heap.size) A c l a j b1 i b w hy hx hr h2 hV (fun k hk => ⟨fun e => (V.p k hk.1).1 (.inr (.inl e)), fun e => (V.p k hk.1).1 (e ▸ .inr (.inr (.inr (.inr (.inr hg))))), hk.2⟩) d1 hj d2 hi0 hi).mono ?_
    rintro e w' ⟨v1, rfl, hv, hx', hr', hk⟩
    obtain ⟨A', c', rfl⟩ := Kd.V_slice hv
    exact ⟨A', c', _, rfl, M.ofB hg hk hx' hr', Wd.of M hk.kept.1 (fun k hk2 => hk2.elim (fun h => .inl (V.p k h.1)) .inr) hv, fun k hk2 => hk2.elim (fun h => .inl h.1) .inr,
      ⟨Kept.mono hk.kept (fun k e => e.elim (fun e => .inr (.inl e)) (fun e => e ▸ .inr (.inr (.inr (.inr (.inr hg)))))), hk.os, hk.tape, hk.output⟩⟩
  · cases ht
  · cases ht
  · cases ht
theorem pick_dry {er : Int} (her : (er != 0) = true) (he7 : er ≠ 7) (F : Nat) (W w : World) (base gx gy gn c : Nat) (U G H P : Nat → Prop) (nx ny a : Int) (X Y items : List ByteArray) (vi : Value) (A : Option Addr) (l : List Int) (vn : Value) (an : Int)
    (M : Mx W w base gx gy gn U G H nx X ny Y vi items vn an) (V : Wd w gx gy gn U G H vi A c l P) (h1 : X.length < 4611686018427387904) (h2 : Y.length < 4611686018427387904)
    (t : Bool × Int × Int × Bool) (hp : picked er F nx X ny Y l a = some t) (ht : t.2.2.2 = false) :
    Calls Try.prog 27 #[.pointer (some ⟨gx, 0, none⟩), .pointer (some ⟨gy, 0, none⟩), .agg #[.slice A l.length c, .int .i64 a]] w fun e w' =>
      ∃ (A' : Option Addr) (c' : Nat), e = .returned (.tuple #[.string ByteArray.empty, .agg #[.slice A' l.length c', .int .i64 t.2.2.1], .int .i64 er]) ∧ Below w.heap.size w w' := by
  have hV := Kd.V_bound V.v
  obtain ⟨vx, hx, hrx⟩ := M.x
  obtain ⟨vy, hy, hry⟩ := M.y
  rcases picked_ways hp with ⟨j, b1, i, b, rfl, d1, hj, d2, hi0, hi⟩ | ⟨j, b1, i, b, rfl, d1, hj, d2, hi0, hi⟩ | ⟨rfl, d1⟩ | ⟨j, b1, rfl, d1, hj, d2⟩ | ⟨j, b1, rfl, d1, hj, d2⟩
  · cases ht
  · cases ht
  · refine (pick_no her F gx gy nx ny vx vy (fun k => P k ∧ k < w.heap.size) A c l a w hx hy hV (fun k hk => hk.2) d1).mono ?_
    rintro e w' ⟨v, rfl, hv, hb⟩
    obtain ⟨A', c', rfl⟩ := Kd.V_slice hv
    exact ⟨A', c', rfl, hb⟩
  · obtain ⟨g, cap, rfl, _, _, _⟩ := Kd.R_form hrx (below_pos he7 d2)
    have hg : G g := hrx.1 g rfl
    refine (pick_a_no her F gx g cap gy nx ny vy X base G (fun k => P k ∧ k < w.heap.size) A c l a j b1 w hx hy hrx h1 hV (fun k hk => ⟨fun e => (V.p k hk.1).1 (.inl e), fun e => (V.p k hk.1).1 (e ▸ .inr (.inr (.inr (.inr (.inl hg))))), hk.2⟩) d1 hj d2).mono ?_
    rintro e w' ⟨v, rfl, hv, hb⟩
    obtain ⟨A', c', rfl⟩ := Kd.V_slice hv
    exact ⟨A', c', rfl, hb⟩
  · obtain ⟨g, cap, rfl, _, _, _⟩ := Kd.R_form hry (below_pos he7 d2)
    have hg : H g := hry.1 g rfl
    refine (pick_b_no her F gy g cap gx ny nx vx Y base H (fun k => P k ∧ k < w.heap.size) A c l a j b1 w hy hx hry h2 hV (fun k hk => ⟨fun e => (V.p k hk.1).1 (.inr (.inl e)), fun e => (V.p k hk.1).1 (e ▸ .inr (.inr (.inr (.inr (.inr hg))))), hk.2⟩) d1 hj d2).mono ?_
    rintro e w' ⟨v, rfl, hv, hb⟩
    obtain ⟨A', c', rfl⟩ := Kd.V_slice hv
    exact ⟨A', c', rfl, hb⟩
end Go.Proofs.Ythgacimoifbhiaa
