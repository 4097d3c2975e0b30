/- The law ReserveEven: what its walk asks of the plain functions, and the law's own memory. -/
import Derived.Test.YthgacimoifbhiaaNx3
import Derived.Test.YthgacimoifbhiaaTake
import Derived.Deep.RegionWith
import Derived.Deep.RegionHeld3
import Derived.Deep.DrawnRows
import Derived.Deep.DeepCutAuto
import Derived.Maps.OwnOps
import Derived.Maps.OwnSet
import Derived.Maps.RangeWalk
namespace Go.Proofs.Ythgacimoifbhiaa
open Go.RowKit Go.Maps Go.Proofs.Ythgacimoifbhiaa.Q Go.Proofs.YthgacimoifbhiaaW.PrintWords Go.Proofs.YthgacimoifbhiaaW.PrintLast Go.Proofs.YthgacimoifbhiaaW.PrintMore
set_option linter.unusedVariables false
set_option linter.unusedSimpArgs false
abbrev evWords (n i : Nat) (r : Int) : List Int := if n ≤ i then [IntKind.u64.wrap (r % ((i : Int) + 1))] else []
abbrev evKey (i : Nat) : ByteArray := strOfNums [97 + (i : Int)]
theorem law3 : Keyed Try.prog 3 := int_keyed Try.underlying3
theorem zero3 (w : World) : (zeroValue 3).run Try.prog w = .ok (.int .i64 0) w := by kernel_rfl
abbrev sampleO (K N : Int) (v : Value) : Obj := .cells #[.int .i64 K, .int .u64 N, v] 26 (0, 0)
theorem put26 {w : World} {g : Nat} {k n : Int} {v : Value} (h : w.heap[g]? = some (sampleO k n v)) (K N : Int) (u : Value) : (((w.setCell ⟨g, 0, none⟩ (.int .i64 K)).setCell ⟨g, 1, none⟩ (.int .u64 N)).setCell ⟨g, 2, none⟩ u).heap[g]? = some (sampleO K N u) :=
  blk_set (blk_set (blk_set h 0 _) 1 _) 2 _
theorem put32 {w : World} {g : Nat} {a : Value} {p : Int} (h : w.heap[g]? = some (wordsO a p)) (b : Value) (q : Int) : ((w.setCell ⟨g, 0, none⟩ b).setCell ⟨g, 1, none⟩ (.int .i64 q)).heap[g]? = some (wordsO b q) :=
  blk_set (blk_set h 0 _) 1 _
/-- The law's memory: the sample at hand, and the map. -/
structure He (w0 w : World) (gs gm : Nat) (n N : Int) (A : Option Addr) (c : Nat) (X : List ByteArray) (k : Nat) (D : DataW Unit) : Prop where
  s : w.heap[gs]? = some (sampleO n N (.slice A X.length c))
  r : Kd.V Kd.string 9 w 0 (fun j => j ≠ gs) (.slice A X.length c) X
  m : w.ownsMap Try.prog 3 (plainElem Try.prog 3) gm k D
  ne : gm ≠ gs
  lo : w0.heap.size ≤ gs ∧ w0.heap.size ≤ gm
  bel : Below w0.heap.size w0 w
theorem He.below {w0 w w' : World} {gs gm : Nat} {n N : Int} {A : Option Addr} {c : Nat} {X : List ByteArray} {k : Nat} {D : DataW Unit} (h : He w0 w gs gm n N A c X k D) (hb : Below w.heap.size w w') : He w0 w' gs gm n N A c X k D :=
  ⟨blk_below h.s hb, Kd.V_below h.r hb, h.m.kept (grown_of_below hb none) (by simp), h.ne, h.lo, below_step h.bel hb⟩
theorem V_base {α : Type} {d : Kd α} {e b : Nat} {w : World} {ok : Nat → Prop} {v : Value} {xs : List α} (b2 : Nat) (h : Kd.V d e w b ok v xs) : Kd.V d e w b2 ok v xs := Kd.V_map h (fun _ h => h)
theorem He.set {w0 w : World} {gs gm : Nat} {n N : Int} {A : Option Addr} {c : Nat} {X : List ByteArray} {k : Nat} {D : DataW Unit} (h : He w0 w gs gm n N A c X k D) {N2 : Int} {A2 : Option Addr} {c2 : Nat} {X2 : List ByteArray}
    (hv : Kd.V Kd.string 9 w 0 (fun j => j ≠ gs) (.slice A2 X2.length c2) X2) :
    He w0 (((w.setCell ⟨gs, 0, none⟩ (.int .i64 n)).setCell ⟨gs, 1, none⟩ (.int .u64 N2)).setCell ⟨gs, 2, none⟩ (.slice A2 X2.length c2)) gs gm n N2 A2 c2 X2 k D := by
  have f1 : ∀ k, (fun j => j ≠ gs) k → k ≠ gs := fun k hk => hk
  exact ⟨put26 h.s _ _ _, Kd.V_far (Kd.V_far (Kd.V_far hv f1 _) f1 _) f1 _, ((h.m.setCell h.ne _).setCell h.ne _).setCell h.ne _, h.ne, h.lo, below_set (below_set (below_set h.bel h.lo.1) h.lo.1) h.lo.1⟩
theorem He.setw {w0 w : World} {gs gm gw : Nat} {n N : Int} {A : Option Addr} {c : Nat} {X : List ByteArray} {k : Nat} {D : DataW Unit} (h : He w0 w gs gm n N A c X k D) (hv : Kd.V Kd.string 9 w 0 (fun j => j ≠ gs ∧ j < gw) (.slice A X.length c) X)
    (h1 : gs < gw) (h2 : gm < gw) (h3 : w0.heap.size ≤ gw) (u v : Value) : He w0 ((w.setCell ⟨gw, 0, none⟩ u).setCell ⟨gw, 1, none⟩ v) gs gm n N A c X k D := by
  have f1 : ∀ k, (fun j => j ≠ gs ∧ j < gw) k → k ≠ gw := fun k hk => by have := hk.2; omega
  exact ⟨blk_far (blk_far h.s (Nat.ne_of_lt h1) _) (Nat.ne_of_lt h1) _, Kd.V_mono (Kd.V_far (Kd.V_far hv f1 _) f1 _) (fun k hk => hk.1), (h.m.setCell (Nat.ne_of_lt h2) _).setCell (Nat.ne_of_lt h2) _, h.ne, h.lo, below_set (below_set h.bel h3) h3⟩
end Go.Proofs.Ythgacimoifbhiaa
