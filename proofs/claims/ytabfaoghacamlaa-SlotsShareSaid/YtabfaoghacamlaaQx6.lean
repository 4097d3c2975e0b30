/- Walks of Go functions, each against a plain function over numbers and lists; written by this session's program printx.py over the kit's print; no condition but those that each theorem states. -/
import Derived.Test.YtabfaoghacamlaaQx0
import Derived.Test.YtabfaoghacamlaaQx2
namespace Go.Proofs.Ytabfaoghacamlaa.Q
open Go.RowKit Go.Proofs.YtabfaoghacamlaaW.PrintWords Go.Proofs.YtabfaoghacamlaaW.PrintLast Go.Proofs.YtabfaoghacamlaaW.PrintMore
attribute [local go_sem] max2_int min2_int max_two min_two max_three min_three max_four min_four   -- for this text's walks alone
set_option linter.unusedVariables false
set_option linter.unusedSimpArgs false

/-! ### slots_Merge: function 18 -/
def slots_Merge.j0 : Nat → Bool → Int → Int → List ByteArray → Int → Int → List ByteArray → List Int → Int → Option (Int × Int × List ByteArray × List Int × Int × Int)
 | 0, _, _, _, _, _, _, _, _, _ => none
 | k + 1, x12, x251000, x251001, x251002, x252000, x252001, x252002, x253000, x253001 => if x12 = true then (none) else (if x251000 = x252000 then (if (IntKind.u64.wrap (x251001 + x252001)) < x251001 then (none) else (if x252001 = 0 then (none) else (if x251001 = 0 then (none) else ((slots_choose.f k x252002 x251002 x252001 x251001 x253000 x253001).bind fun bt257 => (if bt257.2.2.2 = 0 then (some (x251000, IntKind.u64.wrap (x251001 + x252001), bt257.1, bt257.2.1, bt257.2.2.1, 0)) else (none)))))) else (none))
def slots_Merge.f (k : Nat) (a0_0 : Int) (a0_1 : Int) (l0_2 : List ByteArray) (a1_0 : Int) (a1_1 : Int) (l1_2 : List ByteArray) (l2_0 : List Int) (a2_1 : Int) : Option (Int × Int × List ByteArray × List Int × Int × Int) := (slots_Right.f a0_0 a0_1 l0_2).bind fun t255 => (if t255 = true then ((slots_Right.f a1_0 a1_1 l1_2).bind fun t256 => (slots_Merge.j0 k (!t256) a0_0 a0_1 l0_2 a1_0 a1_1 l1_2 l2_0 a2_1)) else (slots_Merge.j0 k true a0_0 a0_1 l0_2 a1_0 a1_1 l1_2 l2_0 a2_1))
theorem slots_Merge.mono_l : ∀ k, (∀ y0 y1 y2 y3 y4 y5 y6 y7 y8, LeO (slots_Merge.j0 k y0 y1 y2 y3 y4 y5 y6 y7 y8) (slots_Merge.j0 (k + 1) y0 y1 y2 y3 y4 y5 y6 y7 y8))
 | 0 => fun _ _ _ _ _ _ _ _ _ r h => by simp [slots_Merge.j0] at h
 | k + 1 => by
  have ih0 := slots_Merge.mono_l k
  ·
   intro y0 y1 y2 y3 y4 y5 y6 y7 y8
   unfold slots_Merge.j0
   repeat' first
   | (with_reducible exact ih0 _ _ _ _ _ _ _ _ _)
   | (with_reducible exact slots_choose.mono _ _ _ _ _ _ _)
   | (with_reducible exact LeO.refl _)
   | (with_reducible exact LeO.none _)
   | (with_reducible refine LeO.ite ?_ ?_)
   | (with_reducible refine LeO.bind ?_ (fun _ => ?_))
   | exact ih0 _ _ _ _ _ _ _ _ _
   | exact slots_choose.mono _ _ _ _ _ _ _
   | exact LeO.none _
   | refine LeO.ite ?_ ?_
   | refine LeO.bind ?_ (fun _ => ?_)
theorem slots_Merge.mono : ∀ a0 a1 a2 a3 a4 a5 a6 a7 k, LeO (slots_Merge.f k a0 a1 a2 a3 a4 a5 a6 a7) (slots_Merge.f (k + 1) a0 a1 a2 a3 a4 a5 a6 a7) := by
 intro a0 a1 a2 a3 a4 a5 a6 a7 k
 have ih0 := slots_Merge.mono_l k
 unfold slots_Merge.f
 repeat' first
   | (with_reducible exact ih0 _ _ _ _ _ _ _ _ _)
   | (with_reducible exact slots_choose.mono _ _ _ _ _ _ _)
   | (with_reducible exact LeO.refl _)
   | (with_reducible exact LeO.none _)
   | (with_reducible refine LeO.ite ?_ ?_)
   | (with_reducible refine LeO.bind ?_ (fun _ => ?_))
   | exact ih0 _ _ _ _ _ _ _ _ _
   | exact slots_choose.mono _ _ _ _ _ _ _
   | exact LeO.none _
   | refine LeO.ite ?_ ?_
   | refine LeO.bind ?_ (fun _ => ?_)
def slots_Merge.T14 : Bool × List (List Nat × List Nat) := (true, [([], []), ([0], [0]), ([], []), ([2], [2]), ([], []), ([4], [4]), ([3, 5], [3, 5]), ([], []), ([1, 6, 7], [1, 6, 7]), ([], []), ([8, 0, 1, 2, 3, 4, 5, 6, 7, 8], [8]), ([9, 10, 0, 1, 2, 3, 4, 5, 6, 7, 8, 9, 10], [9]), ([11, 0, 1, 2, 3, 4, 5, 6, 7, 8, 9, 10, 11], [])])
def slots_Merge.B14 : List Nat := [0, 1, 0, 4, 0, 16, 60, 0, 255, 0, 511, 2047, 4095]
theorem slots_Merge.tab14 : rtab .any (opsOf Try.f18 14) = slots_Merge.T14 := by kernel_rfl
theorem slots_Merge.bits14 : waitsOk slots_Merge.T14.2 slots_Merge.B14 = true := by kernel_rfl
set_option maxHeartbeats 8000000 in
set_option maxRecDepth 100000 in
theorem slots_Merge.calls (k : Nat) (a0_0 : Int) (a0_1 : Int) (P0_2_ : Nat → Prop) (A0_2 : Option Addr) (c0_2 : Nat) (l0_2 : List ByteArray) (a1_0 : Int) (a1_1 : Int) (P1_2_ : Nat → Prop) (A1_2 : Option Addr) (c1_2 : Nat) (l1_2 : List ByteArray) (P2_0_ : Nat → Prop) (A2_0 : Option Addr) (c2_0 : Nat) (l2_0 : List Int) (a2_1 : Int) (r1 : Int) (r2 : Int) (r3 : List ByteArray) (r4 : List Int) (r5 : Int) (r6 : Int) (w : World) (hs0_2 : Kd.V Kd.string 9 w w.heap.size (fun k_ => P0_2_ k_) (.slice A0_2 l0_2.length c0_2) l0_2) (hs1_2 : Kd.V Kd.string 9 w w.heap.size (fun k_ => P1_2_ k_) (.slice A1_2 l1_2.length c1_2) l1_2) (hs2_0 : Kd.V (Kd.int .u64) 24 w w.heap.size (fun k_ => P2_0_ k_) (.slice A2_0 l2_0.length c2_0) l2_0) (h : slots_Merge.f k a0_0 a0_1 l0_2 a1_0 a1_1 l1_2 l2_0 a2_1 = some (r1, r2, r3, r4, r5, r6)) :
  Calls Try.prog 18 #[.agg #[.int .i64 a0_0, .int .u64 a0_1, .slice A0_2 l0_2.length c0_2], .agg #[.int .i64 a1_0, .int .u64 a1_1, .slice A1_2 l1_2.length c1_2], .agg #[.slice A2_0 l2_0.length c2_0, .int .i64 a2_1]] w fun e w' => ∃ v2_ v3_ : Value, e = .returned (.tuple #[.agg #[.int .i64 r1, .int .u64 r2, v2_], .agg #[v3_, .int .i64 r5], .int .i64 r6]) ∧ Kd.V Kd.string 9 w' w.heap.size (fun k_ => ((P0_2_ k_ ∨ P1_2_ k_ ∨ P2_0_ k_) ∨ w.heap.size ≤ k_)) v2_ r3 ∧ Kd.V (Kd.int .u64) 24 w' w.heap.size (fun k_ => ((P0_2_ k_ ∨ P1_2_ k_ ∨ P2_0_ k_) ∨ w.heap.size ≤ k_)) v3_ r4 ∧ Below w.heap.size w w' := by
 have hu27 := Try.underlying27
 have hu33 := Try.underlying33
 have HO0_2 := Aside0.mk (show Kd.V Kd.string 9 w w.heap.size (fun k_ => ((P0_2_ k_ ∨ P1_2_ k_ ∨ P2_0_ k_) ∨ w.heap.size ≤ k_)) (.slice A0_2 l0_2.length c0_2) l0_2 from Kd.V_mono hs0_2 (fun k_ hk => .inl (.inl hk)))
 have HO1_2 := Aside0.mk (show Kd.V Kd.string 9 w w.heap.size (fun k_ => ((P0_2_ k_ ∨ P1_2_ k_ ∨ P2_0_ k_) ∨ w.heap.size ≤ k_)) (.slice A1_2 l1_2.length c1_2) l1_2 from Kd.V_mono hs1_2 (fun k_ hk => .inl (.inr (.inl hk))))
 have HO2_0 := Aside0.mk (show Kd.V (Kd.int .u64) 24 w w.heap.size (fun k_ => ((P0_2_ k_ ∨ P1_2_ k_ ∨ P2_0_ k_) ∨ w.heap.size ≤ k_)) (.slice A2_0 l2_0.length c2_0) l2_0 from Kd.V_mono hs2_0 (fun k_ hk => .inl (.inr (.inr hk))))
 have HB := Aside0.mk (Below.refl w.heap.size w)
 have H : ((slots_Right.f a0_0 a0_1 l0_2).bind fun t255 => (if t255 = true then ((slots_Right.f a1_0 a1_1 l1_2).bind fun t256 => (slots_Merge.j0 k (!t256) a0_0 a0_1 l0_2 a1_0 a1_1 l1_2 l2_0 a2_1)) else (slots_Merge.j0 k true a0_0 a0_1 l0_2 a1_0 a1_1 l1_2 l2_0 a2_1))) = some (r1, r2, r3, r4, r5, r6) := h
 clear h
 have HC4 := Aside0.mk H
 clear H
 go_enter Try.func18, Try.ntmps18
 go_upto_region 1 with (first | ((with_reducible refine gate_dst (N := 3) rfl ?_); refine box_event ?hg (N := 3) ?hd (cs := #[.int .i64 a0_0, .int .u64 a0_1, .slice A0_2 l0_2.length c0_2]) (t := 27) ?hr ?_; (case hd => rfl); (case hg => rfl); (case hr => first | (go_simp; done) | (go_simp; rfl)); intro gb250 hg w5 hbox hb; have n0_ := Aside0.mk (Kd.V_below (Kd.V_elderB (by (with_reducible repeat (first | apply Kd.V_alloc | apply Kd.V_drewN | apply Kd.V_drew)); exact HO0_2.out) gb250 (Nat.le_of_eq hg.symm)) hb); have n1_ := Aside0.mk (Kd.V_below (Kd.V_elderB (by (with_reducible repeat (first | apply Kd.V_alloc | apply Kd.V_drewN | apply Kd.V_drew)); exact HO1_2.out) gb250 (Nat.le_of_eq hg.symm)) hb); have n2_ := Aside0.mk (Kd.V_below (Kd.V_elderB (by (with_reducible repeat (first | apply Kd.V_alloc | apply Kd.V_drewN | apply Kd.V_drew)); exact HO2_0.out) gb250 (Nat.le_of_eq hg.symm)) hb); have n3_ := Aside0.mk (below_step (by repeat (first | (with_reducible first | exact HB.out | apply below_alloc | apply pw_below_drewN | apply below_drew1) | exact HB.out)) hb); have n4_ := Aside0.mk (hbox); have n5_ := Aside0.mk ((by rw [hg]; exact (below_size (by repeat (first | (with_reducible first | exact HB.out | apply below_alloc | apply pw_below_drewN | apply below_drew1) | exact HB.out))) : w.heap.size ≤ gb250)); have n6_ := Aside0.mk ((by rw [hg]; exact (below_size (by repeat (first | (with_reducible first | exact HB.out | apply below_alloc | apply pw_below_drewN | apply below_drew1) | exact HB.out))) : w.heap.size ≤ gb250)); clear HO0_2; clear HO1_2; clear HO2_0; clear HB; have HO0_2 := n0_; have HO1_2 := n1_; have HO2_0 := n2_; have HB := n3_; have BK250 := n4_; have GW250 := n5_; have GE250 := n6_; clear n0_ n1_ n2_ n3_ n4_ n5_ n6_; clear hb hbox hg) | ((with_reducible refine gate_dst (N := 4) rfl ?_); refine box_event ?hg (N := 4) ?hd (cs := #[.int .i64 a1_0, .int .u64 a1_1, .slice A1_2 l1_2.length c1_2]) (t := 27) ?hr ?_; (case hd => rfl); (case hg => rfl); (case hr => first | (go_simp; done) | (go_simp; rfl)); intro gb251 hg w6 hbox hb; have n0_ := Aside0.mk (Kd.V_below (Kd.V_elderB (by (with_reducible repeat (first | apply Kd.V_alloc | apply Kd.V_drewN | apply Kd.V_drew)); exact HO0_2.out) gb251 (Nat.le_of_eq hg.symm)) hb); have n1_ := Aside0.mk (Kd.V_below (Kd.V_elderB (by (with_reducible repeat (first | apply Kd.V_alloc | apply Kd.V_drewN | apply Kd.V_drew)); exact HO1_2.out) gb251 (Nat.le_of_eq hg.symm)) hb); have n2_ := Aside0.mk (Kd.V_below (Kd.V_elderB (by (with_reducible repeat (first | apply Kd.V_alloc | apply Kd.V_drewN | apply Kd.V_drew)); exact HO2_0.out) gb251 (Nat.le_of_eq hg.symm)) hb); have n3_ := Aside0.mk (blk_below (g := gb250) (o := .cells #[.int .i64 a0_0, .int .u64 a0_1, .slice A0_2 l0_2.length c0_2] 27 (0, 0)) (by (with_reducible repeat (first | refine blk_drewN ?_ _ | refine blk_drew ?_ | refine blk_alloc ?_ _)); exact BK250.out) hb); have n4_ := Aside0.mk (below_step (by repeat (first | (with_reducible first | exact HB.out | apply below_alloc | apply pw_below_drewN | apply below_drew1 | refine below_set ?_ GE250.out) | exact HB.out)) hb); have n5_ := Aside0.mk (hbox); have n6_ := Aside0.mk ((by rw [hg]; exact (below_size (by repeat (first | (with_reducible first | exact HB.out | apply below_alloc | apply pw_below_drewN | apply below_drew1 | refine below_set ?_ GE250.out) | exact HB.out))) : w.heap.size ≤ gb251)); have n7_ := Aside0.mk ((by rw [hg]; exact (below_size (by repeat (first | (with_reducible first | exact HB.out | apply below_alloc | apply pw_below_drewN | apply below_drew1 | refine below_set ?_ GE250.out) | exact HB.out))) : w.heap.size ≤ gb251)); have n8_ := Aside0.mk ((by rw [hg]; exact Nat.ne_of_lt (blk_lt (g := gb250) (o := .cells #[.int .i64 a0_0, .int .u64 a0_1, .slice A0_2 l0_2.length c0_2] 27 (0, 0)) (by (with_reducible repeat (first | refine blk_drewN ?_ _ | refine blk_drew ?_ | refine blk_alloc ?_ _)); exact BK250.out)) : gb250 ≠ gb251)); have n9_ := Aside0.mk ((by rw [hg]; exact Nat.ne_of_gt (blk_lt (g := gb250) (o := .cells #[.int .i64 a0_0, .int .u64 a0_1, .slice A0_2 l0_2.length c0_2] 27 (0, 0)) (by (with_reducible repeat (first | refine blk_drewN ?_ _ | refine blk_drew ?_ | refine blk_alloc ?_ _)); exact BK250.out)) : gb251 ≠ gb250)); clear HO0_2; clear HO1_2; clear HO2_0; clear BK250; clear HB; have HO0_2 := n0_; have HO1_2 := n1_; have HO2_0 := n2_; have BK250 := n3_; have HB := n4_; have BK251 := n5_; have GW251 := n6_; have GE251 := n7_; have NB250_251 := n8_; have NB251_250 := n9_; clear n0_ n1_ n2_ n3_ n4_ n5_ n6_ n7_ n8_ n9_; clear hb hbox hg) | ((with_reducible refine gate_dst (N := 5) rfl ?_); refine box_event ?hg (N := 5) ?hd (cs := #[.slice A2_0 l2_0.length c2_0, .int .i64 a2_1]) (t := 33) ?hr ?_; (case hd => rfl); (case hg => rfl); (case hr => first | (go_simp; done) | (go_simp; rfl)); intro gb252 hg w7 hbox hb; have n0_ := Aside0.mk (Kd.V_below (Kd.V_elderB (by (with_reducible repeat (first | apply Kd.V_alloc | apply Kd.V_drewN | apply Kd.V_drew)); exact HO0_2.out) gb252 (Nat.le_of_eq hg.symm)) hb); have n1_ := Aside0.mk (Kd.V_below (Kd.V_elderB (by (with_reducible repeat (first | apply Kd.V_alloc | apply Kd.V_drewN | apply Kd.V_drew)); exact HO1_2.out) gb252 (Nat.le_of_eq hg.symm)) hb); have n2_ := Aside0.mk (Kd.V_below (Kd.V_elderB (by (with_reducible repeat (first | apply Kd.V_alloc | apply Kd.V_drewN | apply Kd.V_drew)); exact HO2_0.out) gb252 (Nat.le_of_eq hg.symm)) hb); have n3_ := Aside0.mk (blk_below (g := gb250) (o := .cells #[.int .i64 a0_0, .int .u64 a0_1, .slice A0_2 l0_2.length c0_2] 27 (0, 0)) (by (with_reducible repeat (first | refine blk_drewN ?_ _ | refine blk_drew ?_ | refine blk_alloc ?_ _)); exact BK250.out) hb); have n4_ := Aside0.mk (blk_below (g := gb251) (o := .cells #[.int .i64 a1_0, .int .u64 a1_1, .slice A1_2 l1_2.length c1_2] 27 (0, 0)) (by (with_reducible repeat (first | refine blk_drewN ?_ _ | refine blk_drew ?_ | refine blk_alloc ?_ _)); exact BK251.out) hb); have n5_ := Aside0.mk (below_step (by repeat (first | (with_reducible first | exact HB.out | apply below_alloc | apply pw_below_drewN | apply below_drew1 | refine below_set ?_ GE250.out | refine below_set ?_ GE251.out) | exact HB.out)) hb); have n6_ := Aside0.mk (hbox); have n7_ := Aside0.mk ((by rw [hg]; exact (below_size (by repeat (first | (with_reducible first | exact HB.out | apply below_alloc | apply pw_below_drewN | apply below_drew1 | refine below_set ?_ GE250.out | refine below_set ?_ GE251.out) | exact HB.out))) : w.heap.size ≤ gb252)); have n8_ := Aside0.mk ((by rw [hg]; exact (below_size (by repeat (first | (with_reducible first | exact HB.out | apply below_alloc | apply pw_below_drewN | apply below_drew1 | refine below_set ?_ GE250.out | refine below_set ?_ GE251.out) | exact HB.out))) : w.heap.size ≤ gb252)); have n9_ := Aside0.mk ((by rw [hg]; exact Nat.ne_of_lt (blk_lt (g := gb250) (o := .cells #[.int .i64 a0_0, .int .u64 a0_1, .slice A0_2 l0_2.length c0_2] 27 (0, 0)) (by (with_reducible repeat (first | refine blk_drewN ?_ _ | refine blk_drew ?_ | refine blk_alloc ?_ _)); exact BK250.out)) : gb250 ≠ gb252)); have n10_ := Aside0.mk ((by rw [hg]; exact Nat.ne_of_gt (blk_lt (g := gb250) (o := .cells #[.int .i64 a0_0, .int .u64 a0_1, .slice A0_2 l0_2.length c0_2] 27 (0, 0)) (by (with_reducible repeat (first | refine blk_drewN ?_ _ | refine blk_drew ?_ | refine blk_alloc ?_ _)); exact BK250.out)) : gb252 ≠ gb250)); have n11_ := Aside0.mk ((by rw [hg]; exact Nat.ne_of_lt (blk_lt (g := gb251) (o := .cells #[.int .i64 a1_0, .int .u64 a1_1, .slice A1_2 l1_2.length c1_2] 27 (0, 0)) (by (with_reducible repeat (first | refine blk_drewN ?_ _ | refine blk_drew ?_ | refine blk_alloc ?_ _)); exact BK251.out)) : gb251 ≠ gb252)); have n12_ := Aside0.mk ((by rw [hg]; exact Nat.ne_of_gt (blk_lt (g := gb251) (o := .cells #[.int .i64 a1_0, .int .u64 a1_1, .slice A1_2 l1_2.length c1_2] 27 (0, 0)) (by (with_reducible repeat (first | refine blk_drewN ?_ _ | refine blk_drew ?_ | refine blk_alloc ?_ _)); exact BK251.out)) : gb252 ≠ gb251)); clear HO0_2; clear HO1_2; clear HO2_0; clear BK250; clear BK251; clear HB; have HO0_2 := n0_; have HO1_2 := n1_; have HO2_0 := n2_; have BK250 := n3_; have BK251 := n4_; have HB := n5_; have BK252 := n6_; have GW252 := n7_; have GE252 := n8_; have NB250_252 := n9_; have NB252_250 := n10_; have NB251_252 := n11_; have NB252_251 := n12_; clear n0_ n1_ n2_ n3_ n4_ n5_ n6_ n7_ n8_ n9_ n10_ n11_ n12_; clear hb hbox hg) | ((with_reducible refine gate_dst (N := 6) rfl ?_); refine box_event ?hg (N := 6) ?hd (cs := #[.int .i64 0, .int .u64 0, .slice none 0 0]) (t := 27) ?hr ?_; (case hd => rfl); (case hg => rfl); (case hr => first | (go_simp; done) | (go_simp; rfl)); intro gb253 hg w8 hbox hb; have n0_ := Aside0.mk (Kd.V_below (Kd.V_elderB (by (with_reducible repeat (first | apply Kd.V_alloc | apply Kd.V_drewN | apply Kd.V_drew)); exact HO0_2.out) gb253 (Nat.le_of_eq hg.symm)) hb); have n1_ := Aside0.mk (Kd.V_below (Kd.V_elderB (by (with_reducible repeat (first | apply Kd.V_alloc | apply Kd.V_drewN | apply Kd.V_drew)); exact HO1_2.out) gb253 (Nat.le_of_eq hg.symm)) hb); have n2_ := Aside0.mk (Kd.V_below (Kd.V_elderB (by (with_reducible repeat (first | apply Kd.V_alloc | apply Kd.V_drewN | apply Kd.V_drew)); exact HO2_0.out) gb253 (Nat.le_of_eq hg.symm)) hb); have n3_ := Aside0.mk (blk_below (g := gb250) (o := .cells #[.int .i64 a0_0, .int .u64 a0_1, .slice A0_2 l0_2.length c0_2] 27 (0, 0)) (by (with_reducible repeat (first | refine blk_drewN ?_ _ | refine blk_drew ?_ | refine blk_alloc ?_ _)); exact BK250.out) hb); have n4_ := Aside0.mk (blk_below (g := gb251) (o := .cells #[.int .i64 a1_0, .int .u64 a1_1, .slice A1_2 l1_2.length c1_2] 27 (0, 0)) (by (with_reducible repeat (first | refine blk_drewN ?_ _ | refine blk_drew ?_ | refine blk_alloc ?_ _)); exact BK251.out) hb); have n5_ := Aside0.mk (blk_below (g := gb252) (o := .cells #[.slice A2_0 l2_0.length c2_0, .int .i64 a2_1] 33 (0, 0)) (by (with_reducible repeat (first | refine blk_drewN ?_ _ | refine blk_drew ?_ | refine blk_alloc ?_ _)); exact BK252.out) hb); have n6_ := Aside0.mk (below_step (by repeat (first | (with_reducible first | exact HB.out | apply below_alloc | apply pw_below_drewN | apply below_drew1 | refine below_set ?_ GE250.out | refine below_set ?_ GE251.out | refine below_set ?_ GE252.out) | exact HB.out)) hb); have n7_ := Aside0.mk (hbox); have n8_ := Aside0.mk ((by rw [hg]; exact (below_size (by repeat (first | (with_reducible first | exact HB.out | apply below_alloc | apply pw_below_drewN | apply below_drew1 | refine below_set ?_ GE250.out | refine below_set ?_ GE251.out | refine below_set ?_ GE252.out) | exact HB.out))) : w.heap.size ≤ gb253)); have n9_ := Aside0.mk ((by rw [hg]; exact (below_size (by repeat (first | (with_reducible first | exact HB.out | apply below_alloc | apply pw_below_drewN | apply below_drew1 | refine below_set ?_ GE250.out | refine below_set ?_ GE251.out | refine below_set ?_ GE252.out) | exact HB.out))) : w.heap.size ≤ gb253)); have n10_ := Aside0.mk ((by rw [hg]; exact Nat.ne_of_lt (blk_lt (g := gb250) (o := .cells #[.int .i64 a0_0, .int .u64 a0_1, .slice A0_2 l0_2.length c0_2] 27 (0, 0)) (by (with_reducible repeat (first | refine blk_drewN ?_ _ | refine blk_drew ?_ | refine blk_alloc ?_ _)); exact BK250.out)) : gb250 ≠ gb253)); have n11_ := Aside0.mk ((by rw [hg]; exact Nat.ne_of_gt (blk_lt (g := gb250) (o := .cells #[.int .i64 a0_0, .int .u64 a0_1, .slice A0_2 l0_2.length c0_2] 27 (0, 0)) (by (with_reducible repeat (first | refine blk_drewN ?_ _ | refine blk_drew ?_ | refine blk_alloc ?_ _)); exact BK250.out)) : gb253 ≠ gb250)); have n12_ := Aside0.mk ((by rw [hg]; exact Nat.ne_of_lt (blk_lt (g := gb251) (o := .cells #[.int .i64 a1_0, .int .u64 a1_1, .slice A1_2 l1_2.length c1_2] 27 (0, 0)) (by (with_reducible repeat (first | refine blk_drewN ?_ _ | refine blk_drew ?_ | refine blk_alloc ?_ _)); exact BK251.out)) : gb251 ≠ gb253)); have n13_ := Aside0.mk ((by rw [hg]; exact Nat.ne_of_gt (blk_lt (g := gb251) (o := .cells #[.int .i64 a1_0, .int .u64 a1_1, .slice A1_2 l1_2.length c1_2] 27 (0, 0)) (by (with_reducible repeat (first | refine blk_drewN ?_ _ | refine blk_drew ?_ | refine blk_alloc ?_ _)); exact BK251.out)) : gb253 ≠ gb251)); have n14_ := Aside0.mk ((by rw [hg]; exact Nat.ne_of_lt (blk_lt (g := gb252) (o := .cells #[.slice A2_0 l2_0.length c2_0, .int .i64 a2_1] 33 (0, 0)) (by (with_reducible repeat (first | refine blk_drewN ?_ _ | refine blk_drew ?_ | refine blk_alloc ?_ _)); exact BK252.out)) : gb252 ≠ gb253)); have n15_ := Aside0.mk ((by rw [hg]; exact Nat.ne_of_gt (blk_lt (g := gb252) (o := .cells #[.slice A2_0 l2_0.length c2_0, .int .i64 a2_1] 33 (0, 0)) (by (with_reducible repeat (first | refine blk_drewN ?_ _ | refine blk_drew ?_ | refine blk_alloc ?_ _)); exact BK252.out)) : gb253 ≠ gb252)); clear HO0_2; clear HO1_2; clear HO2_0; clear BK250; clear BK251; clear BK252; clear HB; have HO0_2 := n0_; have HO1_2 := n1_; have HO2_0 := n2_; have BK250 := n3_; have BK251 := n4_; have BK252 := n5_; have HB := n6_; have BK253 := n7_; have GW253 := n8_; have GE253 := n9_; have NB250_253 := n10_; have NB253_250 := n11_; have NB251_253 := n12_; have NB253_251 := n13_; have NB252_253 := n14_; have NB253_252 := n15_; clear n0_ n1_ n2_ n3_ n4_ n5_ n6_ n7_ n8_ n9_ n10_ n11_ n12_ n13_ n14_ n15_; clear hb hbox hg) | ((with_reducible refine gate_dst (N := 7) rfl ?_); refine box_event ?hg (N := 7) ?hd (cs := #[.slice none 0 0, .int .i64 0]) (t := 33) ?hr ?_; (case hd => rfl); (case hg => rfl); (case hr => first | (go_simp; done) | (go_simp; rfl)); intro gb254 hg w9 hbox hb; have n0_ := Aside0.mk (Kd.V_below (Kd.V_elderB (by (with_reducible repeat (first | apply Kd.V_alloc | apply Kd.V_drewN | apply Kd.V_drew)); exact HO0_2.out) gb254 (Nat.le_of_eq hg.symm)) hb); have n1_ := Aside0.mk (Kd.V_below (Kd.V_elderB (by (with_reducible repeat (first | apply Kd.V_alloc | apply Kd.V_drewN | apply Kd.V_drew)); exact HO1_2.out) gb254 (Nat.le_of_eq hg.symm)) hb); have n2_ := Aside0.mk (Kd.V_below (Kd.V_elderB (by (with_reducible repeat (first | apply Kd.V_alloc | apply Kd.V_drewN | apply Kd.V_drew)); exact HO2_0.out) gb254 (Nat.le_of_eq hg.symm)) hb); have n3_ := Aside0.mk (blk_below (g := gb250) (o := .cells #[.int .i64 a0_0, .int .u64 a0_1, .slice A0_2 l0_2.length c0_2] 27 (0, 0)) (by (with_reducible repeat (first | refine blk_drewN ?_ _ | refine blk_drew ?_ | refine blk_alloc ?_ _)); exact BK250.out) hb); have n4_ := Aside0.mk (blk_below (g := gb251) (o := .cells #[.int .i64 a1_0, .int .u64 a1_1, .slice A1_2 l1_2.length c1_2] 27 (0, 0)) (by (with_reducible repeat (first | refine blk_drewN ?_ _ | refine blk_drew ?_ | refine blk_alloc ?_ _)); exact BK251.out) hb); have n5_ := Aside0.mk (blk_below (g := gb252) (o := .cells #[.slice A2_0 l2_0.length c2_0, .int .i64 a2_1] 33 (0, 0)) (by (with_reducible repeat (first | refine blk_drewN ?_ _ | refine blk_drew ?_ | refine blk_alloc ?_ _)); exact BK252.out) hb); have n6_ := Aside0.mk (blk_below (g := gb253) (o := .cells #[.int .i64 0, .int .u64 0, .slice none 0 0] 27 (0, 0)) (by (with_reducible repeat (first | refine blk_drewN ?_ _ | refine blk_drew ?_ | refine blk_alloc ?_ _)); exact BK253.out) hb); have n7_ := Aside0.mk (below_step (by repeat (first | (with_reducible first | exact HB.out | apply below_alloc | apply pw_below_drewN | apply below_drew1 | refine below_set ?_ GE250.out | refine below_set ?_ GE251.out | refine below_set ?_ GE252.out | refine below_set ?_ GE253.out) | exact HB.out)) hb); have n8_ := Aside0.mk (hbox); have n9_ := Aside0.mk ((by rw [hg]; exact (below_size (by repeat (first | (with_reducible first | exact HB.out | apply below_alloc | apply pw_below_drewN | apply below_drew1 | refine below_set ?_ GE250.out | refine below_set ?_ GE251.out | refine below_set ?_ GE252.out | refine below_set ?_ GE253.out) | exact HB.out))) : w.heap.size ≤ gb254)); have n10_ := Aside0.mk ((by rw [hg]; exact (below_size (by repeat (first | (with_reducible first | exact HB.out | apply below_alloc | apply pw_below_drewN | apply below_drew1 | refine below_set ?_ GE250.out | refine below_set ?_ GE251.out | refine below_set ?_ GE252.out | refine below_set ?_ GE253.out) | exact HB.out))) : w.heap.size ≤ gb254)); have n11_ := Aside0.mk ((by rw [hg]; exact Nat.ne_of_lt (blk_lt (g := gb250) (o := .cells #[.int .i64 a0_0, .int .u64 a0_1, .slice A0_2 l0_2.length c0_2] 27 (0, 0)) (by (with_reducible repeat (first | refine blk_drewN ?_ _ | refine blk_drew ?_ | refine blk_alloc ?_ _)); exact BK250.out)) : gb250 ≠ gb254)); have n12_ := Aside0.mk ((by rw [hg]; exact Nat.ne_of_gt (blk_lt (g := gb250) (o := .cells #[.int .i64 a0_0, .int .u64 a0_1, .slice A0_2 l0_2.length c0_2] 27 (0, 0)) (by (with_reducible repeat (first | refine blk_drewN ?_ _ | refine blk_drew ?_ | refine blk_alloc ?_ _)); exact BK250.out)) : gb254 ≠ gb250)); have n13_ := Aside0.mk ((by rw [hg]; exact Nat.ne_of_lt (blk_lt (g := gb251) (o := .cells #[.int .i64 a1_0, .int .u64 a1_1, .slice A1_2 l1_2.length c1_2] 27 (0, 0)) (by (with_reducible repeat (first | refine blk_drewN ?_ _ | refine blk_drew ?_ | refine blk_alloc ?_ _)); exact BK251.out)) : gb251 ≠ gb254)); have n14_ := Aside0.mk ((by rw [hg]; exact Nat.ne_of_gt (blk_lt (g := gb251) (o := .cells #[.int .i64 a1_0, .int .u64 a1_1, .slice A1_2 l1_2.length c1_2] 27 (0, 0)) (by (with_reducible repeat (first | refine blk_drewN ?_ _ | refine blk_drew ?_ | refine blk_alloc ?_ _)); exact BK251.out)) : gb254 ≠ gb251)); have n15_ := Aside0.mk ((by rw [hg]; exact Nat.ne_of_lt (blk_lt (g := gb252) (o := .cells #[.slice A2_0 l2_0.length c2_0, .int .i64 a2_1] 33 (0, 0)) (by (with_reducible repeat (first | refine blk_drewN ?_ _ | refine blk_drew ?_ | refine blk_alloc ?_ _)); exact BK252.out)) : gb252 ≠ gb254)); have n16_ := Aside0.mk ((by rw [hg]; exact Nat.ne_of_gt (blk_lt (g := gb252) (o := .cells #[.slice A2_0 l2_0.length c2_0, .int .i64 a2_1] 33 (0, 0)) (by (with_reducible repeat (first | refine blk_drewN ?_ _ | refine blk_drew ?_ | refine blk_alloc ?_ _)); exact BK252.out)) : gb254 ≠ gb252)); have n17_ := Aside0.mk ((by rw [hg]; exact Nat.ne_of_lt (blk_lt (g := gb253) (o := .cells #[.int .i64 0, .int .u64 0, .slice none 0 0] 27 (0, 0)) (by (with_reducible repeat (first | refine blk_drewN ?_ _ | refine blk_drew ?_ | refine blk_alloc ?_ _)); exact BK253.out)) : gb253 ≠ gb254)); have n18_ := Aside0.mk ((by rw [hg]; exact Nat.ne_of_gt (blk_lt (g := gb253) (o := .cells #[.int .i64 0, .int .u64 0, .slice none 0 0] 27 (0, 0)) (by (with_reducible repeat (first | refine blk_drewN ?_ _ | refine blk_drew ?_ | refine blk_alloc ?_ _)); exact BK253.out)) : gb254 ≠ gb253)); clear HO0_2; clear HO1_2; clear HO2_0; clear BK250; clear BK251; clear BK252; clear BK253; clear HB; have HO0_2 := n0_; have HO1_2 := n1_; have HO2_0 := n2_; have BK250 := n3_; have BK251 := n4_; have BK252 := n5_; have BK253 := n6_; have HB := n7_; have BK254 := n8_; have GW254 := n9_; have GE254 := n10_; have NB250_254 := n11_; have NB254_250 := n12_; have NB251_254 := n13_; have NB254_251 := n14_; have NB252_254 := n15_; have NB254_252 := n16_; have NB253_254 := n17_; have NB254_253 := n18_; clear n0_ n1_ n2_ n3_ n4_ n5_ n6_ n7_ n8_ n9_ n10_ n11_ n12_ n13_ n14_ n15_ n16_ n17_ n18_; clear hb hbox hg))
 (try simp only [Act.put, List.setIfInBounds_toArray, List.set_cons_zero, List.set_cons_succ])
 go_cut [12] (fun v12 wc => ∃ (kq : Nat) (x12_3 : Bool), v12 = .bool x12_3 ∧ Aside0 (slots_Merge.j0 kq x12_3 a0_0 a0_1 l0_2 a1_0 a1_1 l1_2 l2_0 a2_1 = some (r1, r2, r3, r4, r5, r6)) ∧ Aside0 (kq ≤ k) ∧ Aside0 (Kd.V Kd.string 9 wc w.heap.size (fun k_ => ((P0_2_ k_ ∨ P1_2_ k_ ∨ P2_0_ k_) ∨ w.heap.size ≤ k_) ∧ k_ ≠ gb250 ∧ k_ ≠ gb251 ∧ k_ ≠ gb252 ∧ k_ ≠ gb253 ∧ k_ ≠ gb254) (.slice A0_2 l0_2.length c0_2) l0_2) ∧ Aside0 (Kd.V Kd.string 9 wc w.heap.size (fun k_ => ((P0_2_ k_ ∨ P1_2_ k_ ∨ P2_0_ k_) ∨ w.heap.size ≤ k_) ∧ k_ ≠ gb250 ∧ k_ ≠ gb251 ∧ k_ ≠ gb252 ∧ k_ ≠ gb253 ∧ k_ ≠ gb254) (.slice A1_2 l1_2.length c1_2) l1_2) ∧ Aside0 (Kd.V (Kd.int .u64) 24 wc w.heap.size (fun k_ => ((P0_2_ k_ ∨ P1_2_ k_ ∨ P2_0_ k_) ∨ w.heap.size ≤ k_) ∧ k_ ≠ gb250 ∧ k_ ≠ gb251 ∧ k_ ≠ gb252 ∧ k_ ≠ gb253 ∧ k_ ≠ gb254) (.slice A2_0 l2_0.length c2_0) l2_0) ∧ Aside0 (wc.heap[gb250]? = some (.cells #[.int .i64 a0_0, .int .u64 a0_1, (.slice A0_2 l0_2.length c0_2)] 27 (0, 0))) ∧ Aside0 (wc.heap[gb251]? = some (.cells #[.int .i64 a1_0, .int .u64 a1_1, (.slice A1_2 l1_2.length c1_2)] 27 (0, 0))) ∧ Aside0 (wc.heap[gb252]? = some (.cells #[(.slice A2_0 l2_0.length c2_0), .int .i64 a2_1] 33 (0, 0))) ∧ Aside0 (wc.heap[gb253]? = some (.cells #[.int .i64 0, .int .u64 0, (.slice none 0 0)] 27 (0, 0))) ∧ Aside0 (wc.heap[gb254]? = some (.cells #[(.slice none 0 0), .int .i64 0] 33 (0, 0))) ∧ Aside0 (Below w.heap.size w wc))
 case first =>
  have H := HC4.out
  clear HC4
  replace H := Option.bind_eq_some_iff.mp H
  obtain ⟨t255, A100, H⟩ := H
  replace H : (if t255 = true then ((slots_Right.f a1_0 a1_1 l1_2).bind fun t256 => (slots_Merge.j0 k (!t256) a0_0 a0_1 l0_2 a1_0 a1_1 l1_2 l2_0 a2_1)) else (slots_Merge.j0 k true a0_0 a0_1 l0_2 a1_0 a1_1 l1_2 l2_0 a2_1)) = some (r1, r2, r3, r4, r5, r6) := H
  have A10 := Aside0.mk A100
  clear A100
  by_cases c11 : t255 = true
  ·
   subst c11
   have H1 : ((slots_Right.f a1_0 a1_1 l1_2).bind fun t256 => (slots_Merge.j0 k (!t256) a0_0 a0_1 l0_2 a1_0 a1_1 l1_2 l2_0 a2_1)) = some (r1, r2, r3, r4, r5, r6) := by rw [if_pos rfl] at H; exact H
   clear H
   have H := H1
   clear H1
   replace H := Option.bind_eq_some_iff.mp H
   obtain ⟨t256, A120, H⟩ := H
   replace H : (slots_Merge.j0 k (!t256) a0_0 a0_1 l0_2 a1_0 a1_1 l1_2 l2_0 a2_1) = some (r1, r2, r3, r4, r5, r6) := H
   have A12 := Aside0.mk A120
   clear A120
   have H' := Aside0.mk H
   clear H
   have hnb13 := NB250_251.out
   have hnc13 := NB251_250.out
   have hnb14 := NB250_252.out
   have hnc14 := NB252_250.out
   have hnb15 := NB250_253.out
   have hnc15 := NB253_250.out
   have hnb16 := NB250_254.out
   have hnc16 := NB254_250.out
   have hcz17_0 : w9.cell? ⟨gb250, 0, none⟩ = some (.int .i64 a0_0) := (blk_cell BK250.out 0).trans rfl
   have hcz17_1 : w9.cell? ⟨gb250, 1, none⟩ = some (.int .u64 a0_1) := (blk_cell BK250.out 1).trans rfl
   have hcz17_2 : w9.cell? ⟨gb250, 2, none⟩ = some (.slice A0_2 l0_2.length c0_2) := (blk_cell BK250.out 2).trans rfl
   have hfz17_0 := blk_frozen BK250.out 0
   have hfz17_1 := blk_frozen BK250.out 1
   have hfz17_2 := blk_frozen BK250.out 2
   go_wp2_with (first | ((with_reducible refine gate_callee (f := 13) rfl ?_); refine goesL_ (some 14) rfl rfl Try.func13 (by kernel_rfl) rfl #[.agg #[.int .i64 a0_0, .int .u64 a0_1, .slice A0_2 l0_2.length c0_2]] rfl (by (try simp only [List.map_toArray, List.map_cons, List.map_nil]); first | done | rfl | (simp only [List.length_drop, List.length_take]; rfl)) ?_; (with_reducible refine (slots_Right.calls a0_0 a0_1 _ _ l0_2 true _ ?side1 ?side2 A10.out).mono ?_); (case side1 => repeat (first | exact (Kd.V_reads' HO0_2.out).2.2 | (with_reducible refine Kd.C_alloc ?_ _) | (with_reducible refine Kd.C_drewN ?_ _) | (with_reducible refine Kd.C_drew ?_))); (case side2 => exact (Kd.V_reads' HO0_2.out).2.1); rintro e w18 ⟨rfl, hb⟩; refine ⟨_, rfl, ?_⟩; have n0_ := Aside0.mk (Kd.V_below (by (with_reducible repeat (first | apply Kd.V_alloc | apply Kd.V_drewN | apply Kd.V_drew)); exact HO0_2.out) hb); have n1_ := Aside0.mk (Kd.V_below (by (with_reducible repeat (first | apply Kd.V_alloc | apply Kd.V_drewN | apply Kd.V_drew)); exact HO1_2.out) hb); have n2_ := Aside0.mk (Kd.V_below (by (with_reducible repeat (first | apply Kd.V_alloc | apply Kd.V_drewN | apply Kd.V_drew)); exact HO2_0.out) hb); have n3_ := Aside0.mk (blk_below (g := gb250) (o := .cells #[.int .i64 a0_0, .int .u64 a0_1, .slice A0_2 l0_2.length c0_2] 27 (0, 0)) (by (with_reducible repeat (first | refine blk_drewN ?_ _ | refine blk_drew ?_ | refine blk_alloc ?_ _)); exact BK250.out) hb); have n4_ := Aside0.mk (blk_below (g := gb251) (o := .cells #[.int .i64 a1_0, .int .u64 a1_1, .slice A1_2 l1_2.length c1_2] 27 (0, 0)) (by (with_reducible repeat (first | refine blk_drewN ?_ _ | refine blk_drew ?_ | refine blk_alloc ?_ _)); exact BK251.out) hb); have n5_ := Aside0.mk (blk_below (g := gb252) (o := .cells #[.slice A2_0 l2_0.length c2_0, .int .i64 a2_1] 33 (0, 0)) (by (with_reducible repeat (first | refine blk_drewN ?_ _ | refine blk_drew ?_ | refine blk_alloc ?_ _)); exact BK252.out) hb); have n6_ := Aside0.mk (blk_below (g := gb253) (o := .cells #[.int .i64 0, .int .u64 0, .slice none 0 0] 27 (0, 0)) (by (with_reducible repeat (first | refine blk_drewN ?_ _ | refine blk_drew ?_ | refine blk_alloc ?_ _)); exact BK253.out) hb); have n7_ := Aside0.mk (blk_below (g := gb254) (o := .cells #[.slice none 0 0, .int .i64 0] 33 (0, 0)) (by (with_reducible repeat (first | refine blk_drewN ?_ _ | refine blk_drew ?_ | refine blk_alloc ?_ _)); exact BK254.out) hb); have n8_ := Aside0.mk (below_step (by repeat (first | (with_reducible first | exact HB.out | apply below_alloc | apply pw_below_drewN | apply below_drew1 | refine below_set ?_ GE250.out | refine below_set ?_ GE251.out | refine below_set ?_ GE252.out | refine below_set ?_ GE253.out | refine below_set ?_ GE254.out) | exact HB.out)) hb); clear HO0_2; clear HO1_2; clear HO2_0; clear BK250; clear BK251; clear BK252; clear BK253; clear BK254; clear HB; have HO0_2 := n0_; have HO1_2 := n1_; have HO2_0 := n2_; have BK250 := n3_; have BK251 := n4_; have BK252 := n5_; have BK253 := n6_; have BK254 := n7_; have HB := n8_; clear n0_ n1_ n2_ n3_ n4_ n5_ n6_ n7_ n8_; (try clear hb); (try clear hb2); (try clear hk); (try clear hi); have hnb19 := NB251_252.out; have hnc19 := NB252_251.out; have hnb20 := NB251_253.out; have hnc20 := NB253_251.out; have hnb21 := NB251_254.out; have hnc21 := NB254_251.out; have hcz22_0 : w18.cell? ⟨gb251, 0, none⟩ = some (.int .i64 a1_0) := (blk_cell BK251.out 0).trans rfl; have hcz22_1 : w18.cell? ⟨gb251, 1, none⟩ = some (.int .u64 a1_1) := (blk_cell BK251.out 1).trans rfl; have hcz22_2 : w18.cell? ⟨gb251, 2, none⟩ = some (.slice A1_2 l1_2.length c1_2) := (blk_cell BK251.out 2).trans rfl; have hfz22_0 := blk_frozen BK251.out 0; have hfz22_1 := blk_frozen BK251.out 1; have hfz22_2 := blk_frozen BK251.out 2) | (go_at_call 13; (with_reducible refine (slots_Right.calls a1_0 a1_1 _ _ l1_2 t256 _ ?side1 ?side2 A12.out).mono ?_); (case side1 => repeat (first | exact (Kd.V_reads' HO1_2.out).2.2 | (with_reducible refine Kd.C_alloc ?_ _) | (with_reducible refine Kd.C_drewN ?_ _) | (with_reducible refine Kd.C_drew ?_))); (case side2 => exact (Kd.V_reads' HO1_2.out).2.1); rintro e w23 ⟨rfl, hb⟩; have n0_ := Aside0.mk (Kd.V_below (by (with_reducible repeat (first | apply Kd.V_alloc | apply Kd.V_drewN | apply Kd.V_drew)); exact HO0_2.out) hb); have n1_ := Aside0.mk (Kd.V_below (by (with_reducible repeat (first | apply Kd.V_alloc | apply Kd.V_drewN | apply Kd.V_drew)); exact HO1_2.out) hb); have n2_ := Aside0.mk (Kd.V_below (by (with_reducible repeat (first | apply Kd.V_alloc | apply Kd.V_drewN | apply Kd.V_drew)); exact HO2_0.out) hb); have n3_ := Aside0.mk (blk_below (g := gb250) (o := .cells #[.int .i64 a0_0, .int .u64 a0_1, .slice A0_2 l0_2.length c0_2] 27 (0, 0)) (by (with_reducible repeat (first | refine blk_drewN ?_ _ | refine blk_drew ?_ | refine blk_alloc ?_ _)); exact BK250.out) hb); have n4_ := Aside0.mk (blk_below (g := gb251) (o := .cells #[.int .i64 a1_0, .int .u64 a1_1, .slice A1_2 l1_2.length c1_2] 27 (0, 0)) (by (with_reducible repeat (first | refine blk_drewN ?_ _ | refine blk_drew ?_ | refine blk_alloc ?_ _)); exact BK251.out) hb); have n5_ := Aside0.mk (blk_below (g := gb252) (o := .cells #[.slice A2_0 l2_0.length c2_0, .int .i64 a2_1] 33 (0, 0)) (by (with_reducible repeat (first | refine blk_drewN ?_ _ | refine blk_drew ?_ | refine blk_alloc ?_ _)); exact BK252.out) hb); have n6_ := Aside0.mk (blk_below (g := gb253) (o := .cells #[.int .i64 0, .int .u64 0, .slice none 0 0] 27 (0, 0)) (by (with_reducible repeat (first | refine blk_drewN ?_ _ | refine blk_drew ?_ | refine blk_alloc ?_ _)); exact BK253.out) hb); have n7_ := Aside0.mk (blk_below (g := gb254) (o := .cells #[.slice none 0 0, .int .i64 0] 33 (0, 0)) (by (with_reducible repeat (first | refine blk_drewN ?_ _ | refine blk_drew ?_ | refine blk_alloc ?_ _)); exact BK254.out) hb); have n8_ := Aside0.mk (below_step (by repeat (first | (with_reducible first | exact HB.out | apply below_alloc | apply pw_below_drewN | apply below_drew1 | refine below_set ?_ GE250.out | refine below_set ?_ GE251.out | refine below_set ?_ GE252.out | refine below_set ?_ GE253.out | refine below_set ?_ GE254.out) | exact HB.out)) hb); clear HO0_2; clear HO1_2; clear HO2_0; clear BK250; clear BK251; clear BK252; clear BK253; clear BK254; clear HB; have HO0_2 := n0_; have HO1_2 := n1_; have HO2_0 := n2_; have BK250 := n3_; have BK251 := n4_; have BK252 := n5_; have BK253 := n6_; have BK254 := n7_; have HB := n8_; clear n0_ n1_ n2_ n3_ n4_ n5_ n6_ n7_ n8_; (try clear hb); (try clear hb2); (try clear hk); (try clear hi)))
   go_meet
   case rel => exact ⟨_, (!t256), (by first | rfl | (simp; done) | (simp [*]; done)), H', ⟨by first | omega | exact Nat.le_refl _⟩, ⟨by (with_reducible repeat (first | apply Kd.V_alloc | apply Kd.V_drewN | apply Kd.V_drew)); exact Kd.V_mono HO0_2.out (fun _ hk => ⟨hk.1.1.1.1.1, ⟨hk.1.1.1.1.2, ⟨hk.1.1.1.2, ⟨hk.1.1.2, ⟨hk.1.2, hk.2⟩⟩⟩⟩⟩)⟩, ⟨by (with_reducible repeat (first | apply Kd.V_alloc | apply Kd.V_drewN | apply Kd.V_drew)); exact Kd.V_mono HO1_2.out (fun _ hk => ⟨hk.1.1.1.1.1, ⟨hk.1.1.1.1.2, ⟨hk.1.1.1.2, ⟨hk.1.1.2, ⟨hk.1.2, hk.2⟩⟩⟩⟩⟩)⟩, ⟨by (with_reducible repeat (first | apply Kd.V_alloc | apply Kd.V_drewN | apply Kd.V_drew)); exact Kd.V_mono HO2_0.out (fun _ hk => ⟨hk.1.1.1.1.1, ⟨hk.1.1.1.1.2, ⟨hk.1.1.1.2, ⟨hk.1.1.2, ⟨hk.1.2, hk.2⟩⟩⟩⟩⟩)⟩, ⟨by (with_reducible repeat (first | refine blk_drewN ?_ _ | refine blk_drew ?_ | refine blk_alloc ?_ _)); exact BK250.out⟩, ⟨by (with_reducible repeat (first | refine blk_drewN ?_ _ | refine blk_drew ?_ | refine blk_alloc ?_ _)); exact BK251.out⟩, ⟨by (with_reducible repeat (first | refine blk_drewN ?_ _ | refine blk_drew ?_ | refine blk_alloc ?_ _)); exact BK252.out⟩, ⟨by (with_reducible repeat (first | refine blk_drewN ?_ _ | refine blk_drew ?_ | refine blk_alloc ?_ _)); exact BK253.out⟩, ⟨by (with_reducible repeat (first | refine blk_drewN ?_ _ | refine blk_drew ?_ | refine blk_alloc ?_ _)); exact BK254.out⟩, ⟨by repeat (first | (with_reducible first | exact HB.out | apply below_alloc | apply pw_below_drewN | apply below_drew1 | refine below_set ?_ GE250.out | refine below_set ?_ GE251.out | refine below_set ?_ GE252.out | refine below_set ?_ GE253.out | refine below_set ?_ GE254.out) | exact HB.out)⟩⟩
  ·
   replace c11 := Bool.eq_false_iff.mpr c11
   subst c11
   have H1 : (slots_Merge.j0 k true a0_0 a0_1 l0_2 a1_0 a1_1 l1_2 l2_0 a2_1) = some (r1, r2, r3, r4, r5, r6) := by rw [if_neg (show ¬ (false = true) by decide)] at H; exact H
   clear H
   have H := H1
   clear H1
   have H' := Aside0.mk H
   clear H
   have hnb24 := NB250_251.out
   have hnc24 := NB251_250.out
   have hnb25 := NB250_252.out
   have hnc25 := NB252_250.out
   have hnb26 := NB250_253.out
   have hnc26 := NB253_250.out
   have hnb27 := NB250_254.out
   have hnc27 := NB254_250.out
   have hcz28_0 : w9.cell? ⟨gb250, 0, none⟩ = some (.int .i64 a0_0) := (blk_cell BK250.out 0).trans rfl
   have hcz28_1 : w9.cell? ⟨gb250, 1, none⟩ = some (.int .u64 a0_1) := (blk_cell BK250.out 1).trans rfl
   have hcz28_2 : w9.cell? ⟨gb250, 2, none⟩ = some (.slice A0_2 l0_2.length c0_2) := (blk_cell BK250.out 2).trans rfl
   have hfz28_0 := blk_frozen BK250.out 0
   have hfz28_1 := blk_frozen BK250.out 1
   have hfz28_2 := blk_frozen BK250.out 2
   go_wp2_with (first | ((with_reducible refine gate_callee (f := 13) rfl ?_); refine goesL_ (some 14) rfl rfl Try.func13 (by kernel_rfl) rfl #[.agg #[.int .i64 a0_0, .int .u64 a0_1, .slice A0_2 l0_2.length c0_2]] rfl (by (try simp only [List.map_toArray, List.map_cons, List.map_nil]); first | done | rfl | (simp only [List.length_drop, List.length_take]; rfl)) ?_; (with_reducible refine (slots_Right.calls a0_0 a0_1 _ _ l0_2 false _ ?side1 ?side2 A10.out).mono ?_); (case side1 => repeat (first | exact (Kd.V_reads' HO0_2.out).2.2 | (with_reducible refine Kd.C_alloc ?_ _) | (with_reducible refine Kd.C_drewN ?_ _) | (with_reducible refine Kd.C_drew ?_))); (case side2 => exact (Kd.V_reads' HO0_2.out).2.1); rintro e w29 ⟨rfl, hb⟩; refine ⟨_, rfl, ?_⟩; have n0_ := Aside0.mk (Kd.V_below (by (with_reducible repeat (first | apply Kd.V_alloc | apply Kd.V_drewN | apply Kd.V_drew)); exact HO0_2.out) hb); have n1_ := Aside0.mk (Kd.V_below (by (with_reducible repeat (first | apply Kd.V_alloc | apply Kd.V_drewN | apply Kd.V_drew)); exact HO1_2.out) hb); have n2_ := Aside0.mk (Kd.V_below (by (with_reducible repeat (first | apply Kd.V_alloc | apply Kd.V_drewN | apply Kd.V_drew)); exact HO2_0.out) hb); have n3_ := Aside0.mk (blk_below (g := gb250) (o := .cells #[.int .i64 a0_0, .int .u64 a0_1, .slice A0_2 l0_2.length c0_2] 27 (0, 0)) (by (with_reducible repeat (first | refine blk_drewN ?_ _ | refine blk_drew ?_ | refine blk_alloc ?_ _)); exact BK250.out) hb); have n4_ := Aside0.mk (blk_below (g := gb251) (o := .cells #[.int .i64 a1_0, .int .u64 a1_1, .slice A1_2 l1_2.length c1_2] 27 (0, 0)) (by (with_reducible repeat (first | refine blk_drewN ?_ _ | refine blk_drew ?_ | refine blk_alloc ?_ _)); exact BK251.out) hb); have n5_ := Aside0.mk (blk_below (g := gb252) (o := .cells #[.slice A2_0 l2_0.length c2_0, .int .i64 a2_1] 33 (0, 0)) (by (with_reducible repeat (first | refine blk_drewN ?_ _ | refine blk_drew ?_ | refine blk_alloc ?_ _)); exact BK252.out) hb); have n6_ := Aside0.mk (blk_below (g := gb253) (o := .cells #[.int .i64 0, .int .u64 0, .slice none 0 0] 27 (0, 0)) (by (with_reducible repeat (first | refine blk_drewN ?_ _ | refine blk_drew ?_ | refine blk_alloc ?_ _)); exact BK253.out) hb); have n7_ := Aside0.mk (blk_below (g := gb254) (o := .cells #[.slice none 0 0, .int .i64 0] 33 (0, 0)) (by (with_reducible repeat (first | refine blk_drewN ?_ _ | refine blk_drew ?_ | refine blk_alloc ?_ _)); exact BK254.out) hb); have n8_ := Aside0.mk (below_step (by repeat (first | (with_reducible first | exact HB.out | apply below_alloc | apply pw_below_drewN | apply below_drew1 | refine below_set ?_ GE250.out | refine below_set ?_ GE251.out | refine below_set ?_ GE252.out | refine below_set ?_ GE253.out | refine below_set ?_ GE254.out) | exact HB.out)) hb); clear HO0_2; clear HO1_2; clear HO2_0; clear BK250; clear BK251; clear BK252; clear BK253; clear BK254; clear HB; have HO0_2 := n0_; have HO1_2 := n1_; have HO2_0 := n2_; have BK250 := n3_; have BK251 := n4_; have BK252 := n5_; have BK253 := n6_; have BK254 := n7_; have HB := n8_; clear n0_ n1_ n2_ n3_ n4_ n5_ n6_ n7_ n8_; (try clear hb); (try clear hb2); (try clear hk); (try clear hi)))
   go_meet
   case rel => exact ⟨_, (true), (by first | rfl | (simp; done) | (simp [*]; done)), H', ⟨by first | omega | exact Nat.le_refl _⟩, ⟨by (with_reducible repeat (first | apply Kd.V_alloc | apply Kd.V_drewN | apply Kd.V_drew)); exact Kd.V_mono HO0_2.out (fun _ hk => ⟨hk.1.1.1.1.1, ⟨hk.1.1.1.1.2, ⟨hk.1.1.1.2, ⟨hk.1.1.2, ⟨hk.1.2, hk.2⟩⟩⟩⟩⟩)⟩, ⟨by (with_reducible repeat (first | apply Kd.V_alloc | apply Kd.V_drewN | apply Kd.V_drew)); exact Kd.V_mono HO1_2.out (fun _ hk => ⟨hk.1.1.1.1.1, ⟨hk.1.1.1.1.2, ⟨hk.1.1.1.2, ⟨hk.1.1.2, ⟨hk.1.2, hk.2⟩⟩⟩⟩⟩)⟩, ⟨by (with_reducible repeat (first | apply Kd.V_alloc | apply Kd.V_drewN | apply Kd.V_drew)); exact Kd.V_mono HO2_0.out (fun _ hk => ⟨hk.1.1.1.1.1, ⟨hk.1.1.1.1.2, ⟨hk.1.1.1.2, ⟨hk.1.1.2, ⟨hk.1.2, hk.2⟩⟩⟩⟩⟩)⟩, ⟨by (with_reducible repeat (first | refine blk_drewN ?_ _ | refine blk_drew ?_ | refine blk_alloc ?_ _)); exact BK250.out⟩, ⟨by (with_reducible repeat (first | refine blk_drewN ?_ _ | refine blk_drew ?_ | refine blk_alloc ?_ _)); exact BK251.out⟩, ⟨by (with_reducible repeat (first | refine blk_drewN ?_ _ | refine blk_drew ?_ | refine blk_alloc ?_ _)); exact BK252.out⟩, ⟨by (with_reducible repeat (first | refine blk_drewN ?_ _ | refine blk_drew ?_ | refine blk_alloc ?_ _)); exact BK253.out⟩, ⟨by (with_reducible repeat (first | refine blk_drewN ?_ _ | refine blk_drew ?_ | refine blk_alloc ?_ _)); exact BK254.out⟩, ⟨by repeat (first | (with_reducible first | exact HB.out | apply below_alloc | apply pw_below_drewN | apply below_drew1 | refine below_set ?_ GE250.out | refine below_set ?_ GE251.out | refine below_set ?_ GE252.out | refine below_set ?_ GE253.out | refine below_set ?_ GE254.out) | exact HB.out)⟩⟩
 case rest =>
  clear HC4
  try clear c1
  try clear c2
  try clear p2
  try clear c11
  try clear c13
  try clear c14
  try clear c15
  try clear c16
  try clear c18
  try clear c19
  try clear c20
  try clear c21
  try clear c24
  try clear c25
  try clear c26
  try clear c27
  try clear hcz17_0
  try clear hcz17_1
  try clear hcz17_2
  try clear hcz22_0
  try clear hcz22_1
  try clear hcz22_2
  try clear hcz28_0
  try clear hcz28_1
  try clear hcz28_2
  try clear hfz17_0
  try clear hfz17_1
  try clear hfz17_2
  try clear hfz22_0
  try clear hfz22_1
  try clear hfz22_2
  try clear hfz28_0
  try clear hfz28_1
  try clear hfz28_2
  obtain ⟨kq, x12_3, rfl, HA, HJ3, HO_251002, HO_252002, HO_253000, BK250, BK251, BK252, BK253, BK254, HB⟩ := hcut
  cases kq with
  | zero => exact absurd HA.out (by simp [slots_Merge.j0])
  | succ kj3 =>
   have H := HA.out
   clear HA
   simp only [slots_Merge.j0] at H
   by_cases c30 : x12_3 = true
   ·
    rw [if_pos c30] at H; cases H
   ·
    replace c30 := Bool.eq_false_iff.mpr c30
    subst c30
    have H1 : (if a0_0 = a1_0 then (if (IntKind.u64.wrap (a0_1 + a1_1)) < a0_1 then (none) else (if a1_1 = 0 then (none) else (if a0_1 = 0 then (none) else ((slots_choose.f kj3 l1_2 l0_2 a1_1 a0_1 l2_0 a2_1).bind fun bt257 => (if bt257.2.2.2 = 0 then (some (a0_0, IntKind.u64.wrap (a0_1 + a1_1), bt257.1, bt257.2.1, bt257.2.2.1, 0)) else (none)))))) else (none)) = some (r1, r2, r3, r4, r5, r6) := by rw [if_neg (show ¬ (false = true) by decide)] at H; exact H
    clear H
    have H := H1
    clear H1
    by_cases c37 : a0_0 = a1_0
    ·
     rw [if_pos c37] at H
     have c37b0 : (a0_0 == a1_0) = true := beq_iff_eq.mpr c37
     have c37b1 : (a0_0 != a1_0) = false := bne_eq_false_iff_eq.mpr c37
     clear c37
     by_cases c38 : (IntKind.u64.wrap (a0_1 + a1_1)) < a0_1
     ·
      rw [if_pos c38] at H; cases H
     ·
      rw [if_neg c38] at H
      have c38b0 : decide ((IntKind.u64.wrap (a0_1 + a1_1)) < a0_1) = false := decide_eq_false c38
      clear c38
      by_cases c54 : a1_1 = 0
      ·
       rw [if_pos c54] at H; cases H
      ·
       rw [if_neg c54] at H
       have c54b0 : (a1_1 == 0) = false := beq_eq_false_iff_ne.mpr c54
       have c54b1 : (a1_1 != 0) = true := bne_iff_ne.mpr c54
       by_cases c70 : a0_1 = 0
       ·
        rw [if_pos c70] at H; cases H
       ·
        rw [if_neg c70] at H
        have c70b0 : (a0_1 == 0) = false := beq_eq_false_iff_ne.mpr c70
        have c70b1 : (a0_1 != 0) = true := bne_iff_ne.mpr c70
        replace H := Option.bind_eq_some_iff.mp H
        obtain ⟨⟨t257, t260, t263, t264⟩, A860, H⟩ := H
        replace H : (if t264 = 0 then (some (a0_0, IntKind.u64.wrap (a0_1 + a1_1), t257, t260, t263, 0)) else (none)) = some (r1, r2, r3, r4, r5, r6) := H
        have A86 := Aside0.mk A860
        clear A860
        by_cases c87 : t264 = 0
        ·
         rw [if_pos c87] at H
         have c87b0 : (t264 == 0) = true := beq_iff_eq.mpr c87
         have c87b1 : (t264 != 0) = false := bne_eq_false_iff_eq.mpr c87
         clear c87
         simp only [Option.some.injEq, Prod.mk.injEq] at H
         obtain ⟨rfl, rfl, rfl, rfl, rfl, rfl⟩ := H
         have hnb88 := NB250_251.out
         have hnc88 := NB251_250.out
         have hnb89 := NB250_252.out
         have hnc89 := NB252_250.out
         have hnb90 := NB250_253.out
         have hnc90 := NB253_250.out
         have hnb91 := NB250_254.out
         have hnc91 := NB254_250.out
         have hcz92_0 : wc.cell? ⟨gb250, 0, none⟩ = some (.int .i64 a0_0) := (blk_cell BK250.out 0).trans rfl
         have hcz92_1 : wc.cell? ⟨gb250, 1, none⟩ = some (.int .u64 a0_1) := (blk_cell BK250.out 1).trans rfl
         have hcz92_2 : wc.cell? ⟨gb250, 2, none⟩ = some (.slice A0_2 l0_2.length c0_2) := (blk_cell BK250.out 2).trans rfl
         have hfz92_0 := blk_frozen BK250.out 0
         have hfz92_1 := blk_frozen BK250.out 1
         have hfz92_2 := blk_frozen BK250.out 2
         have hnb93 := NB251_252.out
         have hnc93 := NB252_251.out
         have hnb94 := NB251_253.out
         have hnc94 := NB253_251.out
         have hnb95 := NB251_254.out
         have hnc95 := NB254_251.out
         have hcz96_0 : wc.cell? ⟨gb251, 0, none⟩ = some (.int .i64 a1_0) := (blk_cell BK251.out 0).trans rfl
         have hcz96_1 : wc.cell? ⟨gb251, 1, none⟩ = some (.int .u64 a1_1) := (blk_cell BK251.out 1).trans rfl
         have hcz96_2 : wc.cell? ⟨gb251, 2, none⟩ = some (.slice A1_2 l1_2.length c1_2) := (blk_cell BK251.out 2).trans rfl
         have hfz96_0 := blk_frozen BK251.out 0
         have hfz96_1 := blk_frozen BK251.out 1
         have hfz96_2 := blk_frozen BK251.out 2
         have hnb97 := NB252_253.out
         have hnc97 := NB253_252.out
         have hnb98 := NB252_254.out
         have hnc98 := NB254_252.out
         have hcz99_0 : wc.cell? ⟨gb252, 0, none⟩ = some (.slice A2_0 l2_0.length c2_0) := (blk_cell BK252.out 0).trans rfl
         have hcz99_1 : wc.cell? ⟨gb252, 1, none⟩ = some (.int .i64 a2_1) := (blk_cell BK252.out 1).trans rfl
         have hfz99_0 := blk_frozen BK252.out 0
         have hfz99_1 := blk_frozen BK252.out 1
         try go_wp2_with (first | ((with_reducible refine gate_callee (f := 22) rfl ?_); refine goesL_ (some 64) rfl rfl Try.func22 (by kernel_rfl) rfl #[.slice A1_2 l1_2.length c1_2, .slice A0_2 l0_2.length c0_2, .int .u64 a1_1, .int .u64 a0_1, .agg #[.slice A2_0 l2_0.length c2_0, .int .i64 a2_1]] rfl (by (try simp only [List.map_toArray, List.map_cons, List.map_nil]); first | done | rfl | (simp only [List.length_drop, List.length_take]; rfl)) ?_; (with_reducible refine (slots_choose.calls kj3 _ _ l1_2 _ _ l0_2 a1_1 a0_1 (fun k_ => (((P0_2_ k_ ∨ P1_2_ k_ ∨ P2_0_ k_) ∨ w.heap.size ≤ k_) ∧ (k_ ≠ gb250 ∧ (k_ ≠ gb251 ∧ (k_ ≠ gb252 ∧ (k_ ≠ gb253 ∧ k_ ≠ gb254)))))) _ _ l2_0 a2_1 t257 t260 t263 t264 _ ?side1 ?side2 ?side3 ?side4 ?side5 A86.out).mono ?_); (case side1 => repeat (first | exact (Kd.V_reads' HO_252002.out).2.2 | (with_reducible refine Kd.C_alloc ?_ _) | (with_reducible refine Kd.C_drewN ?_ _) | (with_reducible refine Kd.C_drew ?_))); (case side2 => exact (Kd.V_reads' HO_252002.out).2.1); (case side3 => repeat (first | exact (Kd.V_reads' HO_251002.out).2.2 | (with_reducible refine Kd.C_alloc ?_ _) | (with_reducible refine Kd.C_drewN ?_ _) | (with_reducible refine Kd.C_drew ?_))); (case side4 => exact (Kd.V_reads' HO_251002.out).2.1); (case side5 => exact HO_253000.out); rintro e w100 ⟨v258, v261, rfl, ho0, ho1, hb⟩; refine ⟨_, rfl, ?_⟩; have n0_ := Aside0.mk (Kd.V_elder' (by (with_reducible repeat (first | apply Kd.V_alloc | apply Kd.V_drewN | apply Kd.V_drew)); exact HO_251002.out) (Kd.R_base ho0) hb); have n1_ := Aside0.mk (Kd.V_elder' (by (with_reducible repeat (first | apply Kd.V_alloc | apply Kd.V_drewN | apply Kd.V_drew)); exact HO_252002.out) (Kd.R_base ho0) hb); have n2_ := Aside0.mk (Kd.V_elder' (by (with_reducible repeat (first | apply Kd.V_alloc | apply Kd.V_drewN | apply Kd.V_drew)); exact HO_253000.out) (Kd.R_base ho0) hb); have n3_ := Aside0.mk (Kd.R_lower (Kd.R_newM (M := fun k_ => (w.heap.size ≤ k_)) (Kd.R_mono (ok' := fun k_ => True) ho0 (fun _ hk_ => trivial)) (below_size (by repeat (first | (with_reducible first | exact HB.out | apply below_alloc | apply pw_below_drewN | apply below_drew1 | refine below_set ?_ GE250.out | refine below_set ?_ GE251.out | refine below_set ?_ GE252.out | refine below_set ?_ GE253.out | refine below_set ?_ GE254.out) | exact HB.out))) (fun k_ h_ => h_)) (below_size (by repeat (first | (with_reducible first | exact HB.out | apply below_alloc | apply pw_below_drewN | apply below_drew1 | refine below_set ?_ GE250.out | refine below_set ?_ GE251.out | refine below_set ?_ GE252.out | refine below_set ?_ GE253.out | refine below_set ?_ GE254.out) | exact HB.out)))); have n4_ := Aside0.mk (Kd.V_lower (Kd.V_mono (ok' := fun k_ => ((P0_2_ k_ ∨ P1_2_ k_ ∨ P2_0_ k_) ∨ w.heap.size ≤ k_) ∧ some k_ ≠ (v258 : Value).ownBlock ∧ k_ ≠ gb250 ∧ k_ ≠ gb251 ∧ k_ ≠ gb252 ∧ k_ ≠ gb253 ∧ k_ ≠ gb254) ho1 (fun k_ hk_ => ⟨Or.elim hk_.1 (fun hs_ => hs_.1) (fun hn_ => (.inr (Nat.le_trans (below_size (by repeat (first | (with_reducible first | exact HB.out | apply below_alloc | apply pw_below_drewN | apply below_drew1 | refine below_set ?_ GE250.out | refine below_set ?_ GE251.out | refine below_set ?_ GE252.out | refine below_set ?_ GE253.out | refine below_set ?_ GE254.out) | exact HB.out))) hn_))), hk_.2, Or.elim hk_.1 (fun hs_ => hs_.2.1) (fun hn_ => (Kd.freshB (g := gb250) (o := .cells #[.int .i64 a0_0, .int .u64 a0_1, .slice A0_2 l0_2.length c0_2] 27 (0, 0)) (by (with_reducible repeat (first | refine blk_drewN ?_ _ | refine blk_drew ?_ | refine blk_alloc ?_ _)); exact BK250.out) k_ hn_)), Or.elim hk_.1 (fun hs_ => hs_.2.2.1) (fun hn_ => (Kd.freshB (g := gb251) (o := .cells #[.int .i64 a1_0, .int .u64 a1_1, .slice A1_2 l1_2.length c1_2] 27 (0, 0)) (by (with_reducible repeat (first | refine blk_drewN ?_ _ | refine blk_drew ?_ | refine blk_alloc ?_ _)); exact BK251.out) k_ hn_)), Or.elim hk_.1 (fun hs_ => hs_.2.2.2.1) (fun hn_ => (Kd.freshB (g := gb252) (o := .cells #[.slice A2_0 l2_0.length c2_0, .int .i64 a2_1] 33 (0, 0)) (by (with_reducible repeat (first | refine blk_drewN ?_ _ | refine blk_drew ?_ | refine blk_alloc ?_ _)); exact BK252.out) k_ hn_)), Or.elim hk_.1 (fun hs_ => hs_.2.2.2.2.1) (fun hn_ => (Kd.freshB (g := gb253) (o := .cells #[.int .i64 0, .int .u64 0, .slice none 0 0] 27 (0, 0)) (by (with_reducible repeat (first | refine blk_drewN ?_ _ | refine blk_drew ?_ | refine blk_alloc ?_ _)); exact BK253.out) k_ hn_)), Or.elim hk_.1 (fun hs_ => hs_.2.2.2.2.2) (fun hn_ => (Kd.freshB (g := gb254) (o := .cells #[.slice none 0 0, .int .i64 0] 33 (0, 0)) (by (with_reducible repeat (first | refine blk_drewN ?_ _ | refine blk_drew ?_ | refine blk_alloc ?_ _)); exact BK254.out) k_ hn_))⟩)) (below_size (by repeat (first | (with_reducible first | exact HB.out | apply below_alloc | apply pw_below_drewN | apply below_drew1 | refine below_set ?_ GE250.out | refine below_set ?_ GE251.out | refine below_set ?_ GE252.out | refine below_set ?_ GE253.out | refine below_set ?_ GE254.out) | exact HB.out)))); have n5_ := Aside0.mk (blk_below (g := gb250) (o := .cells #[.int .i64 a0_0, .int .u64 a0_1, .slice A0_2 l0_2.length c0_2] 27 (0, 0)) (by (with_reducible repeat (first | refine blk_drewN ?_ _ | refine blk_drew ?_ | refine blk_alloc ?_ _)); exact BK250.out) hb); have n6_ := Aside0.mk (blk_below (g := gb251) (o := .cells #[.int .i64 a1_0, .int .u64 a1_1, .slice A1_2 l1_2.length c1_2] 27 (0, 0)) (by (with_reducible repeat (first | refine blk_drewN ?_ _ | refine blk_drew ?_ | refine blk_alloc ?_ _)); exact BK251.out) hb); have n7_ := Aside0.mk (blk_below (g := gb252) (o := .cells #[.slice A2_0 l2_0.length c2_0, .int .i64 a2_1] 33 (0, 0)) (by (with_reducible repeat (first | refine blk_drewN ?_ _ | refine blk_drew ?_ | refine blk_alloc ?_ _)); exact BK252.out) hb); have n8_ := Aside0.mk (blk_below (g := gb253) (o := .cells #[.int .i64 0, .int .u64 0, .slice none 0 0] 27 (0, 0)) (by (with_reducible repeat (first | refine blk_drewN ?_ _ | refine blk_drew ?_ | refine blk_alloc ?_ _)); exact BK253.out) hb); have n9_ := Aside0.mk (blk_below (g := gb254) (o := .cells #[.slice none 0 0, .int .i64 0] 33 (0, 0)) (by (with_reducible repeat (first | refine blk_drewN ?_ _ | refine blk_drew ?_ | refine blk_alloc ?_ _)); exact BK254.out) hb); have n10_ := Aside0.mk (below_step (by repeat (first | (with_reducible first | exact HB.out | apply below_alloc | apply pw_below_drewN | apply below_drew1 | refine below_set ?_ GE250.out | refine below_set ?_ GE251.out | refine below_set ?_ GE252.out | refine below_set ?_ GE253.out | refine below_set ?_ GE254.out) | exact HB.out)) hb); clear HO_251002; clear HO_252002; clear HO_253000; clear BK250; clear BK251; clear BK252; clear BK253; clear BK254; clear HB; have HO_251002 := n0_; have HO_252002 := n1_; have HO_253000 := n2_; have HO259 := n3_; have HO262 := n4_; have BK250 := n5_; have BK251 := n6_; have BK252 := n7_; have BK253 := n8_; have BK254 := n9_; have HB := n10_; clear n0_ n1_ n2_ n3_ n4_ n5_ n6_ n7_ n8_ n9_ n10_; (try clear hb); (try clear hb2); (try clear hk); (try clear hi); (try clear ho0); (try clear ho1)) | ((with_reducible refine gate_dst (N := 10) rfl ?_); refine box_event ?hg (N := 10) ?hd (cs := #[.slice none 0 0, .int .i64 0]) (t := 33) ?hr ?_; (case hd => rfl); (case hg => rfl); (case hr => first | (go_simp; done) | (go_simp; rfl)); intro gb265 hg w101 hbox hb; have n0_ := Aside0.mk (Kd.V_below (Kd.V_elderB (by (with_reducible repeat (first | apply Kd.V_alloc | apply Kd.V_drewN | apply Kd.V_drew)); exact HO_251002.out) gb265 (Nat.le_of_eq hg.symm)) hb); have n1_ := Aside0.mk (Kd.V_below (Kd.V_elderB (by (with_reducible repeat (first | apply Kd.V_alloc | apply Kd.V_drewN | apply Kd.V_drew)); exact HO_252002.out) gb265 (Nat.le_of_eq hg.symm)) hb); have n2_ := Aside0.mk (Kd.V_below (Kd.V_elderB (by (with_reducible repeat (first | apply Kd.V_alloc | apply Kd.V_drewN | apply Kd.V_drew)); exact HO_253000.out) gb265 (Nat.le_of_eq hg.symm)) hb); have n3_ := Aside0.mk (Kd.R_below (by (with_reducible repeat (first | apply Kd.R_alloc | apply Kd.R_drewN | apply Kd.R_drew)); exact HO259.out) hb); have n4_ := Aside0.mk (Kd.V_below (Kd.V_elderB (by (with_reducible repeat (first | apply Kd.V_alloc | apply Kd.V_drewN | apply Kd.V_drew)); exact HO262.out) gb265 (Nat.le_of_eq hg.symm)) hb); have n5_ := Aside0.mk (blk_below (g := gb250) (o := .cells #[.int .i64 a0_0, .int .u64 a0_1, .slice A0_2 l0_2.length c0_2] 27 (0, 0)) (by (with_reducible repeat (first | refine blk_drewN ?_ _ | refine blk_drew ?_ | refine blk_alloc ?_ _)); exact BK250.out) hb); have n6_ := Aside0.mk (blk_below (g := gb251) (o := .cells #[.int .i64 a1_0, .int .u64 a1_1, .slice A1_2 l1_2.length c1_2] 27 (0, 0)) (by (with_reducible repeat (first | refine blk_drewN ?_ _ | refine blk_drew ?_ | refine blk_alloc ?_ _)); exact BK251.out) hb); have n7_ := Aside0.mk (blk_below (g := gb252) (o := .cells #[.slice A2_0 l2_0.length c2_0, .int .i64 a2_1] 33 (0, 0)) (by (with_reducible repeat (first | refine blk_drewN ?_ _ | refine blk_drew ?_ | refine blk_alloc ?_ _)); exact BK252.out) hb); have n8_ := Aside0.mk (blk_below (g := gb253) (o := .cells #[.int .i64 0, .int .u64 0, .slice none 0 0] 27 (0, 0)) (by (with_reducible repeat (first | refine blk_drewN ?_ _ | refine blk_drew ?_ | refine blk_alloc ?_ _)); exact BK253.out) hb); have n9_ := Aside0.mk (blk_below (g := gb254) (o := .cells #[.slice none 0 0, .int .i64 0] 33 (0, 0)) (by (with_reducible repeat (first | refine blk_drewN ?_ _ | refine blk_drew ?_ | refine blk_alloc ?_ _)); exact BK254.out) hb); have n10_ := Aside0.mk (below_step (by repeat (first | (with_reducible first | exact HB.out | apply below_alloc | apply pw_below_drewN | apply below_drew1 | refine below_set ?_ GE250.out | refine below_set ?_ GE251.out | refine below_set ?_ GE252.out | refine below_set ?_ GE253.out | refine below_set ?_ GE254.out) | exact HB.out)) hb); have n11_ := Aside0.mk (hbox); have n12_ := Aside0.mk ((by rw [hg]; exact (below_size (by repeat (first | (with_reducible first | exact HB.out | apply below_alloc | apply pw_below_drewN | apply below_drew1 | refine below_set ?_ GE250.out | refine below_set ?_ GE251.out | refine below_set ?_ GE252.out | refine below_set ?_ GE253.out | refine below_set ?_ GE254.out) | exact HB.out))) : w.heap.size ≤ gb265)); have n13_ := Aside0.mk ((by rw [hg]; exact (below_size (by repeat (first | (with_reducible first | exact HB.out | apply below_alloc | apply pw_below_drewN | apply below_drew1 | refine below_set ?_ GE250.out | refine below_set ?_ GE251.out | refine below_set ?_ GE252.out | refine below_set ?_ GE253.out | refine below_set ?_ GE254.out) | exact HB.out))) : w.heap.size ≤ gb265)); have n14_ := Aside0.mk ((by rw [hg]; exact Nat.ne_of_lt (blk_lt (g := gb250) (o := .cells #[.int .i64 a0_0, .int .u64 a0_1, .slice A0_2 l0_2.length c0_2] 27 (0, 0)) (by (with_reducible repeat (first | refine blk_drewN ?_ _ | refine blk_drew ?_ | refine blk_alloc ?_ _)); exact BK250.out)) : gb250 ≠ gb265)); have n15_ := Aside0.mk ((by rw [hg]; exact Nat.ne_of_gt (blk_lt (g := gb250) (o := .cells #[.int .i64 a0_0, .int .u64 a0_1, .slice A0_2 l0_2.length c0_2] 27 (0, 0)) (by (with_reducible repeat (first | refine blk_drewN ?_ _ | refine blk_drew ?_ | refine blk_alloc ?_ _)); exact BK250.out)) : gb265 ≠ gb250)); have n16_ := Aside0.mk ((by rw [hg]; exact Nat.ne_of_lt (blk_lt (g := gb251) (o := .cells #[.int .i64 a1_0, .int .u64 a1_1, .slice A1_2 l1_2.length c1_2] 27 (0, 0)) (by (with_reducible repeat (first | refine blk_drewN ?_ _ | refine blk_drew ?_ | refine blk_alloc ?_ _)); exact BK251.out)) : gb251 ≠ gb265)); have n17_ := Aside0.mk ((by rw [hg]; exact Nat.ne_of_gt (blk_lt (g := gb251) (o := .cells #[.int .i64 a1_0, .int .u64 a1_1, .slice A1_2 l1_2.length c1_2] 27 (0, 0)) (by (with_reducible repeat (first | refine blk_drewN ?_ _ | refine blk_drew ?_ | refine blk_alloc ?_ _)); exact BK251.out)) : gb265 ≠ gb251)); have n18_ := Aside0.mk ((by rw [hg]; exact Nat.ne_of_lt (blk_lt (g := gb252) (o := .cells #[.slice A2_0 l2_0.length c2_0, .int .i64 a2_1] 33 (0, 0)) (by (with_reducible repeat (first | refine blk_drewN ?_ _ | refine blk_drew ?_ | refine blk_alloc ?_ _)); exact BK252.out)) : gb252 ≠ gb265)); have n19_ := Aside0.mk ((by rw [hg]; exact Nat.ne_of_gt (blk_lt (g := gb252) (o := .cells #[.slice A2_0 l2_0.length c2_0, .int .i64 a2_1] 33 (0, 0)) (by (with_reducible repeat (first | refine blk_drewN ?_ _ | refine blk_drew ?_ | refine blk_alloc ?_ _)); exact BK252.out)) : gb265 ≠ gb252)); have n20_ := Aside0.mk ((by rw [hg]; exact Nat.ne_of_lt (blk_lt (g := gb253) (o := .cells #[.int .i64 0, .int .u64 0, .slice none 0 0] 27 (0, 0)) (by (with_reducible repeat (first | refine blk_drewN ?_ _ | refine blk_drew ?_ | refine blk_alloc ?_ _)); exact BK253.out)) : gb253 ≠ gb265)); have n21_ := Aside0.mk ((by rw [hg]; exact Nat.ne_of_gt (blk_lt (g := gb253) (o := .cells #[.int .i64 0, .int .u64 0, .slice none 0 0] 27 (0, 0)) (by (with_reducible repeat (first | refine blk_drewN ?_ _ | refine blk_drew ?_ | refine blk_alloc ?_ _)); exact BK253.out)) : gb265 ≠ gb253)); have n22_ := Aside0.mk ((by rw [hg]; exact Nat.ne_of_lt (blk_lt (g := gb254) (o := .cells #[.slice none 0 0, .int .i64 0] 33 (0, 0)) (by (with_reducible repeat (first | refine blk_drewN ?_ _ | refine blk_drew ?_ | refine blk_alloc ?_ _)); exact BK254.out)) : gb254 ≠ gb265)); have n23_ := Aside0.mk ((by rw [hg]; exact Nat.ne_of_gt (blk_lt (g := gb254) (o := .cells #[.slice none 0 0, .int .i64 0] 33 (0, 0)) (by (with_reducible repeat (first | refine blk_drewN ?_ _ | refine blk_drew ?_ | refine blk_alloc ?_ _)); exact BK254.out)) : gb265 ≠ gb254)); clear HO_251002; clear HO_252002; clear HO_253000; clear HO259; clear HO262; clear BK250; clear BK251; clear BK252; clear BK253; clear BK254; clear HB; have HO_251002 := n0_; have HO_252002 := n1_; have HO_253000 := n2_; have HO259 := n3_; have HO262 := n4_; have BK250 := n5_; have BK251 := n6_; have BK252 := n7_; have BK253 := n8_; have BK254 := n9_; have HB := n10_; have BK265 := n11_; have GW265 := n12_; have GE265 := n13_; have NB250_265 := n14_; have NB265_250 := n15_; have NB251_265 := n16_; have NB265_251 := n17_; have NB252_265 := n18_; have NB265_252 := n19_; have NB253_265 := n20_; have NB265_253 := n21_; have NB254_265 := n22_; have NB265_254 := n23_; clear n0_ n1_ n2_ n3_ n4_ n5_ n6_ n7_ n8_ n9_ n10_ n11_ n12_ n13_ n14_ n15_ n16_ n17_ n18_ n19_ n20_ n21_ n22_ n23_; clear hb hbox hg; obtain ⟨Ao102, co102, eo102⟩ := Kd.V_slice HO262.out; subst eo102; have hnb103 := NB265_250.out; have hnc103 := NB250_265.out; have hnb104 := NB265_251.out; have hnc104 := NB251_265.out; have hnb105 := NB265_252.out; have hnc105 := NB252_265.out; have hnb106 := NB265_253.out; have hnc106 := NB253_265.out; have hnb107 := NB265_254.out; have hnc107 := NB254_265.out; have hcz108_0 : w101.cell? ⟨gb265, 0, none⟩ = some (.slice none 0 0) := (blk_cell BK265.out 0).trans rfl; have hcz108_1 : w101.cell? ⟨gb265, 1, none⟩ = some (.int .i64 0) := (blk_cell BK265.out 1).trans rfl; have hfz108_0 := blk_frozen BK265.out 0; have hfz108_1 := blk_frozen BK265.out 1))
         have n0_ : Aside0 (Kd.V Kd.string 9 ((w101.setCell ⟨gb265, 0, none⟩ (.slice Ao102 t260.length co102)).setCell ⟨gb265, 1, none⟩ (.int .i64 t263)) w.heap.size (fun k_ => ((P0_2_ k_ ∨ P1_2_ k_ ∨ P2_0_ k_) ∨ w.heap.size ≤ k_) ∧ some k_ ≠ (v258 : Value).ownBlock ∧ k_ ≠ gb250 ∧ k_ ≠ gb251 ∧ k_ ≠ gb252 ∧ k_ ≠ gb253 ∧ k_ ≠ gb254 ∧ k_ ≠ gb265) (.slice A0_2 l0_2.length c0_2) l0_2) := ⟨by (with_reducible repeat (first | apply Kd.V_alloc | apply Kd.V_drewN | apply Kd.V_drew)); exact Kd.V_mono (Kd.V_far (p := ⟨gb265, 1, none⟩) (Kd.V_far (p := ⟨gb265, 0, none⟩) (Kd.V_mono HO_251002.out (fun k_ hk => (⟨hk, hk.2⟩ : _ ∧ k_ ≠ gb265))) (fun _ hk => hk.2) (.slice Ao102 t260.length co102)) (fun _ hk => hk.2) (.int .i64 t263)) (fun _ hk => ⟨hk.1.1.1.1, ⟨hk.1.1.2, ⟨hk.1.1.1.2.1, ⟨hk.1.1.1.2.2.1, ⟨hk.1.1.1.2.2.2.1, ⟨hk.1.1.1.2.2.2.2.1, ⟨hk.1.1.1.2.2.2.2.2, hk.1.2⟩⟩⟩⟩⟩⟩⟩)⟩
         have n1_ : Aside0 (Kd.V Kd.string 9 ((w101.setCell ⟨gb265, 0, none⟩ (.slice Ao102 t260.length co102)).setCell ⟨gb265, 1, none⟩ (.int .i64 t263)) w.heap.size (fun k_ => ((P0_2_ k_ ∨ P1_2_ k_ ∨ P2_0_ k_) ∨ w.heap.size ≤ k_) ∧ some k_ ≠ (v258 : Value).ownBlock ∧ k_ ≠ gb250 ∧ k_ ≠ gb251 ∧ k_ ≠ gb252 ∧ k_ ≠ gb253 ∧ k_ ≠ gb254 ∧ k_ ≠ gb265) (.slice A1_2 l1_2.length c1_2) l1_2) := ⟨by (with_reducible repeat (first | apply Kd.V_alloc | apply Kd.V_drewN | apply Kd.V_drew)); exact Kd.V_mono (Kd.V_far (p := ⟨gb265, 1, none⟩) (Kd.V_far (p := ⟨gb265, 0, none⟩) (Kd.V_mono HO_252002.out (fun k_ hk => (⟨hk, hk.2⟩ : _ ∧ k_ ≠ gb265))) (fun _ hk => hk.2) (.slice Ao102 t260.length co102)) (fun _ hk => hk.2) (.int .i64 t263)) (fun _ hk => ⟨hk.1.1.1.1, ⟨hk.1.1.2, ⟨hk.1.1.1.2.1, ⟨hk.1.1.1.2.2.1, ⟨hk.1.1.1.2.2.2.1, ⟨hk.1.1.1.2.2.2.2.1, ⟨hk.1.1.1.2.2.2.2.2, hk.1.2⟩⟩⟩⟩⟩⟩⟩)⟩
         have n2_ : Aside0 (Kd.V (Kd.int .u64) 24 ((w101.setCell ⟨gb265, 0, none⟩ (.slice Ao102 t260.length co102)).setCell ⟨gb265, 1, none⟩ (.int .i64 t263)) w.heap.size (fun k_ => ((P0_2_ k_ ∨ P1_2_ k_ ∨ P2_0_ k_) ∨ w.heap.size ≤ k_) ∧ some k_ ≠ (v258 : Value).ownBlock ∧ k_ ≠ gb250 ∧ k_ ≠ gb251 ∧ k_ ≠ gb252 ∧ k_ ≠ gb253 ∧ k_ ≠ gb254 ∧ k_ ≠ gb265) (.slice A2_0 l2_0.length c2_0) l2_0) := ⟨by (with_reducible repeat (first | apply Kd.V_alloc | apply Kd.V_drewN | apply Kd.V_drew)); exact Kd.V_mono (Kd.V_far (p := ⟨gb265, 1, none⟩) (Kd.V_far (p := ⟨gb265, 0, none⟩) (Kd.V_mono HO_253000.out (fun k_ hk => (⟨hk, hk.2⟩ : _ ∧ k_ ≠ gb265))) (fun _ hk => hk.2) (.slice Ao102 t260.length co102)) (fun _ hk => hk.2) (.int .i64 t263)) (fun _ hk => ⟨hk.1.1.1.1, ⟨hk.1.1.2, ⟨hk.1.1.1.2.1, ⟨hk.1.1.1.2.2.1, ⟨hk.1.1.1.2.2.2.1, ⟨hk.1.1.1.2.2.2.2.1, ⟨hk.1.1.1.2.2.2.2.2, hk.1.2⟩⟩⟩⟩⟩⟩⟩)⟩
         have n3_ : Aside0 (Kd.R Kd.string 9 ((w101.setCell ⟨gb265, 0, none⟩ (.slice Ao102 t260.length co102)).setCell ⟨gb265, 1, none⟩ (.int .i64 t263)) w.heap.size (fun k_ => (w.heap.size ≤ k_)) v258 t257) := ⟨by (with_reducible repeat (first | apply Kd.R_alloc | apply Kd.R_drewN | apply Kd.R_drew)); exact Kd.R_mono (Kd.R_far (p := ⟨gb265, 1, none⟩) (Kd.R_far (p := ⟨gb265, 0, none⟩) (Kd.R_types HO259.out BK265.out (by decide)) (fun _ hk => hk.2) (.slice Ao102 t260.length co102)) (fun _ hk => hk.2) (.int .i64 t263)) (fun _ hk => hk.1.1)⟩
         have n4_ : Aside0 (Kd.V (Kd.int .u64) 24 ((w101.setCell ⟨gb265, 0, none⟩ (.slice Ao102 t260.length co102)).setCell ⟨gb265, 1, none⟩ (.int .i64 t263)) w.heap.size (fun k_ => ((P0_2_ k_ ∨ P1_2_ k_ ∨ P2_0_ k_) ∨ w.heap.size ≤ k_) ∧ some k_ ≠ (v258 : Value).ownBlock ∧ k_ ≠ gb250 ∧ k_ ≠ gb251 ∧ k_ ≠ gb252 ∧ k_ ≠ gb253 ∧ k_ ≠ gb254 ∧ k_ ≠ gb265) (.slice Ao102 t260.length co102) t260) := ⟨by (with_reducible repeat (first | apply Kd.V_alloc | apply Kd.V_drewN | apply Kd.V_drew)); exact Kd.V_mono (Kd.V_far (p := ⟨gb265, 1, none⟩) (Kd.V_far (p := ⟨gb265, 0, none⟩) (Kd.V_mono HO262.out (fun k_ hk => (⟨hk, hk.2⟩ : _ ∧ k_ ≠ gb265))) (fun _ hk => hk.2) (.slice Ao102 t260.length co102)) (fun _ hk => hk.2) (.int .i64 t263)) (fun _ hk => ⟨hk.1.1.1, ⟨hk.1.1.2.1, ⟨hk.1.1.2.2.1, ⟨hk.1.1.2.2.2.1, ⟨hk.1.1.2.2.2.2.1, ⟨hk.1.1.2.2.2.2.2.1, ⟨hk.1.1.2.2.2.2.2.2, hk.1.2⟩⟩⟩⟩⟩⟩⟩)⟩
         have n5_ : Aside0 (((w101.setCell ⟨gb265, 0, none⟩ (.slice Ao102 t260.length co102)).setCell ⟨gb265, 1, none⟩ (.int .i64 t263)).heap[gb250]? = some (.cells #[.int .i64 a0_0, .int .u64 a0_1, .slice A0_2 l0_2.length c0_2] 27 (0, 0))) := ⟨by (with_reducible repeat (first | refine blk_drewN ?_ _ | refine blk_drew ?_ | refine blk_alloc ?_ _)); refine blk_far ?_ NB250_265.out _; (with_reducible repeat (first | refine blk_drewN ?_ _ | refine blk_drew ?_ | refine blk_alloc ?_ _)); refine blk_far ?_ NB250_265.out _; (with_reducible repeat (first | refine blk_drewN ?_ _ | refine blk_drew ?_ | refine blk_alloc ?_ _)); exact BK250.out⟩
         have n6_ : Aside0 (((w101.setCell ⟨gb265, 0, none⟩ (.slice Ao102 t260.length co102)).setCell ⟨gb265, 1, none⟩ (.int .i64 t263)).heap[gb251]? = some (.cells #[.int .i64 a1_0, .int .u64 a1_1, .slice A1_2 l1_2.length c1_2] 27 (0, 0))) := ⟨by (with_reducible repeat (first | refine blk_drewN ?_ _ | refine blk_drew ?_ | refine blk_alloc ?_ _)); refine blk_far ?_ NB251_265.out _; (with_reducible repeat (first | refine blk_drewN ?_ _ | refine blk_drew ?_ | refine blk_alloc ?_ _)); refine blk_far ?_ NB251_265.out _; (with_reducible repeat (first | refine blk_drewN ?_ _ | refine blk_drew ?_ | refine blk_alloc ?_ _)); exact BK251.out⟩
         have n7_ : Aside0 (((w101.setCell ⟨gb265, 0, none⟩ (.slice Ao102 t260.length co102)).setCell ⟨gb265, 1, none⟩ (.int .i64 t263)).heap[gb252]? = some (.cells #[.slice A2_0 l2_0.length c2_0, .int .i64 a2_1] 33 (0, 0))) := ⟨by (with_reducible repeat (first | refine blk_drewN ?_ _ | refine blk_drew ?_ | refine blk_alloc ?_ _)); refine blk_far ?_ NB252_265.out _; (with_reducible repeat (first | refine blk_drewN ?_ _ | refine blk_drew ?_ | refine blk_alloc ?_ _)); refine blk_far ?_ NB252_265.out _; (with_reducible repeat (first | refine blk_drewN ?_ _ | refine blk_drew ?_ | refine blk_alloc ?_ _)); exact BK252.out⟩
         have n8_ : Aside0 (((w101.setCell ⟨gb265, 0, none⟩ (.slice Ao102 t260.length co102)).setCell ⟨gb265, 1, none⟩ (.int .i64 t263)).heap[gb253]? = some (.cells #[.int .i64 0, .int .u64 0, .slice none 0 0] 27 (0, 0))) := ⟨by (with_reducible repeat (first | refine blk_drewN ?_ _ | refine blk_drew ?_ | refine blk_alloc ?_ _)); refine blk_far ?_ NB253_265.out _; (with_reducible repeat (first | refine blk_drewN ?_ _ | refine blk_drew ?_ | refine blk_alloc ?_ _)); refine blk_far ?_ NB253_265.out _; (with_reducible repeat (first | refine blk_drewN ?_ _ | refine blk_drew ?_ | refine blk_alloc ?_ _)); exact BK253.out⟩
         have n9_ : Aside0 (((w101.setCell ⟨gb265, 0, none⟩ (.slice Ao102 t260.length co102)).setCell ⟨gb265, 1, none⟩ (.int .i64 t263)).heap[gb254]? = some (.cells #[.slice none 0 0, .int .i64 0] 33 (0, 0))) := ⟨by (with_reducible repeat (first | refine blk_drewN ?_ _ | refine blk_drew ?_ | refine blk_alloc ?_ _)); refine blk_far ?_ NB254_265.out _; (with_reducible repeat (first | refine blk_drewN ?_ _ | refine blk_drew ?_ | refine blk_alloc ?_ _)); refine blk_far ?_ NB254_265.out _; (with_reducible repeat (first | refine blk_drewN ?_ _ | refine blk_drew ?_ | refine blk_alloc ?_ _)); exact BK254.out⟩
         have n10_ : Aside0 (((w101.setCell ⟨gb265, 0, none⟩ (.slice Ao102 t260.length co102)).setCell ⟨gb265, 1, none⟩ (.int .i64 t263)).heap[gb265]? = some (.cells #[.slice Ao102 t260.length co102, .int .i64 t263] 33 (0, 0))) := ⟨by (with_reducible repeat (first | refine blk_drewN ?_ _ | refine blk_drew ?_ | refine blk_alloc ?_ _)); refine blk_put (cs := #[.slice Ao102 t260.length co102, .int .i64 0]) ?_ 1 _ rfl; (with_reducible repeat (first | refine blk_drewN ?_ _ | refine blk_drew ?_ | refine blk_alloc ?_ _)); refine blk_put (cs := #[.slice none 0 0, .int .i64 0]) ?_ 0 _ rfl; (with_reducible repeat (first | refine blk_drewN ?_ _ | refine blk_drew ?_ | refine blk_alloc ?_ _)); exact BK265.out⟩
         have n11_ : Aside0 (Below w.heap.size w ((w101.setCell ⟨gb265, 0, none⟩ (.slice Ao102 t260.length co102)).setCell ⟨gb265, 1, none⟩ (.int .i64 t263))) := ⟨by repeat (first | (with_reducible first | exact HB.out | apply below_alloc | apply pw_below_drewN | apply below_drew1 | refine below_set ?_ GE250.out | refine below_set ?_ GE251.out | refine below_set ?_ GE252.out | refine below_set ?_ GE253.out | refine below_set ?_ GE254.out | refine below_set ?_ GE265.out) | exact HB.out)⟩
         (try clear HO_251002)
         (try clear HO_252002)
         (try clear HO_253000)
         (try clear HO259)
         (try clear HO262)
         (try clear BK250)
         (try clear BK251)
         (try clear BK252)
         (try clear BK253)
         (try clear BK254)
         (try clear BK265)
         (try clear HB)
         generalize ((w101.setCell ⟨gb265, 0, none⟩ (.slice Ao102 t260.length co102)).setCell ⟨gb265, 1, none⟩ (.int .i64 t263)) = w109 at n0_ n1_ n2_ n3_ n4_ n5_ n6_ n7_ n8_ n9_ n10_ n11_ ⊢
         have HO_251002 := n0_
         have HO_252002 := n1_
         have HO_253000 := n2_
         have HO259 := n3_
         have HO262 := n4_
         have BK250 := n5_
         have BK251 := n6_
         have BK252 := n7_
         have BK253 := n8_
         have BK254 := n9_
         have BK265 := n10_
         have HB := n11_
         clear n0_ n1_ n2_ n3_ n4_ n5_ n6_ n7_ n8_ n9_ n10_ n11_
         have n0_ := Aside0.mk (Kd.V_drew HO_251002.out)
         have n1_ := Aside0.mk (Kd.V_drew HO_252002.out)
         have n2_ := Aside0.mk (Kd.V_drew HO_253000.out)
         have n3_ := Aside0.mk (Kd.R_drew HO259.out)
         have n4_ := Aside0.mk (Kd.V_drew HO262.out)
         have n5_ := Aside0.mk (blk_drew BK250.out)
         have n6_ := Aside0.mk (blk_drew BK251.out)
         have n7_ := Aside0.mk (blk_drew BK252.out)
         have n8_ := Aside0.mk (blk_drew BK253.out)
         have n9_ := Aside0.mk (blk_drew BK254.out)
         have n10_ := Aside0.mk (blk_drew BK265.out)
         have n11_ := Aside0.mk (below_drew1 HB.out)
         clear HO_251002
         clear HO_252002
         clear HO_253000
         clear HO259
         clear HO262
         clear BK250
         clear BK251
         clear BK252
         clear BK253
         clear BK254
         clear BK265
         clear HB
         have HO_251002 := n0_
         have HO_252002 := n1_
         have HO_253000 := n2_
         have HO259 := n3_
         have HO262 := n4_
         have BK250 := n5_
         have BK251 := n6_
         have BK252 := n7_
         have BK253 := n8_
         have BK254 := n9_
         have BK265 := n10_
         have HB := n11_
         clear n0_ n1_ n2_ n3_ n4_ n5_ n6_ n7_ n8_ n9_ n10_ n11_
         obtain ⟨Ao111, co111, eo111⟩ := Kd.R_slice HO259.out
         (first | subst eo111 | (injection eo111 with f1_ f2_ f3_; have f4_ := f1_.symm; have f5_ := f3_.symm; clear f1_ f2_ f3_; subst f4_; subst f5_))
         refine start_ (n := 13) (S := fun w' => w'.cell? ⟨gb250, 0, none⟩ = some (.int .i64 a0_0) ∧ w'.cell? ⟨gb250, 1, none⟩ = some (.int .u64 a0_1) ∧ w'.cell? ⟨gb250, 2, none⟩ = some (.slice A0_2 l0_2.length c0_2) ∧ w'.cell? ⟨gb251, 0, none⟩ = some (.int .i64 a1_0) ∧ w'.cell? ⟨gb251, 1, none⟩ = some (.int .u64 a1_1) ∧ w'.cell? ⟨gb251, 2, none⟩ = some (.slice A1_2 l1_2.length c1_2) ∧ w'.cell? ⟨gb265, 0, none⟩ = some (.slice Ao102 t260.length co102) ∧ w'.cell? ⟨gb265, 1, none⟩ = some (.int .i64 t263)) (ds := []) #[false, false, false, false, false, false, false, false, false, false, false, false, false] (by kernel_rfl) rfl rfl ⟨(blk_cell BK250.out 0).trans rfl, (blk_cell BK250.out 1).trans rfl, (blk_cell BK250.out 2).trans rfl, (blk_cell BK251.out 0).trans rfl, (blk_cell BK251.out 1).trans rfl, (blk_cell BK251.out 2).trans rfl, (blk_cell BK265.out 0).trans rfl, (blk_cell BK265.out 1).trans rfl⟩ (fun hHeld => ?_); refine with_tabW slots_Merge.tab14 slots_Merge.bits14 (fun HT_ HW_ => ?_)
         generalize w109.drew = w110 at HO_251002 HO_252002 HO_253000 HO259 HO262 BK250 BK251 BK252 BK253 BK254 BK265 HB hHeld ⊢
         refine pure_ (i := 0) (N := some 73) (v := ?_) (a' := ?_) #[true, false, false, false, false, false, false, false, false, false, false, false, false] rfl rfl (any_of HT_.out (by kernel_rfl)) (fun _ _ _ h => h) (Or.inl ⟨by rfl, ?_⟩) ?_ ?_
         rotate_left
         ·
          intro w'
          go_simp
          with_reducible rfl
         rotate_left
         ·
          simp only [Act.put, List.setIfInBounds_toArray, List.set_cons_zero, List.set_cons_succ, i64_w, i32_w]
          rfl
         refine pure_ (i := 2) (N := some 75) (v := ?_) (a' := ?_) #[true, false, true, false, false, false, false, false, false, false, false, false, false] rfl rfl (any_of HT_.out (by kernel_rfl)) (fun _ _ _ h => h) (Or.inl ⟨by rfl, ?_⟩) ?_ ?_
         rotate_left
         ·
          intro w'
          go_simp
          with_reducible rfl
         rotate_left
         ·
          simp only [Act.put, List.setIfInBounds_toArray, List.set_cons_zero, List.set_cons_succ, i64_w, i32_w]
          rfl
         refine pure_ (i := 4) (N := some 77) (v := ?_) (a' := ?_) #[true, false, true, false, true, false, false, false, false, false, false, false, false] rfl rfl (any_of HT_.out (by kernel_rfl)) (fun _ _ _ h => h) (Or.inl ⟨by rfl, ?_⟩) ?_ ?_
         rotate_left
         ·
          intro w'
          go_simp
          with_reducible rfl
         rotate_left
         ·
          simp only [Act.put, List.setIfInBounds_toArray, List.set_cons_zero, List.set_cons_succ, i64_w, i32_w]
          rfl
         refine pure_ (i := 7) (N := some 80) (v := ?_) (a' := ?_) #[true, false, true, false, true, false, false, true, false, false, false, false, false] rfl rfl (any_of HT_.out (by kernel_rfl)) (fun _ _ _ h => h) (Or.inl ⟨by rfl, ?_⟩) ?_ ?_
         rotate_left
         ·
          intro w'
          go_simp
          with_reducible rfl
         rotate_left
         ·
          simp only [Act.put, List.setIfInBounds_toArray, List.set_cons_zero, List.set_cons_succ, i64_w, i32_w]
          rfl
         refine take_ (i := 1) (N := some 74) (v := ?_) (a' := ?_) #[true, true, true, false, true, false, false, true, false, false, false, false, false] rfl rfl (take_ofW HT_.out HW_.out (by kernel_rfl)) (fun _ _ _ h => h) (Or.inl ⟨by rfl, ?_⟩) hHeld ?_ ?_
         rotate_left
         ·
          rintro w' ⟨s0, s1, s2, s3, s4, s5, s6, s7⟩
          go_simp
          with_reducible rfl
         rotate_left
         ·
          simp only [Act.put, List.setIfInBounds_toArray, List.set_cons_zero, List.set_cons_succ, i64_w, i32_w]
          rfl
         refine take_ (i := 3) (N := some 76) (v := ?_) (a' := ?_) #[true, true, true, true, true, false, false, true, false, false, false, false, false] rfl rfl (take_ofW HT_.out HW_.out (by kernel_rfl)) (fun _ _ _ h => h) (Or.inl ⟨by rfl, ?_⟩) hHeld ?_ ?_
         rotate_left
         ·
          rintro w' ⟨s0, s1, s2, s3, s4, s5, s6, s7⟩
          go_simp
          with_reducible rfl
         rotate_left
         ·
          simp only [Act.put, List.setIfInBounds_toArray, List.set_cons_zero, List.set_cons_succ, i64_w, i32_w]
          rfl
         refine take_ (i := 5) (N := some 78) (v := ?_) (a' := ?_) #[true, true, true, true, true, true, false, true, false, false, false, false, false] rfl rfl (take_ofW HT_.out HW_.out (by kernel_rfl)) (fun _ _ _ h => h) (Or.inl ⟨by rfl, ?_⟩) hHeld ?_ ?_
         rotate_left
         ·
          rintro w' ⟨s0, s1, s2, s3, s4, s5, s6, s7⟩
          go_simp
          with_reducible rfl
         rotate_left
         ·
          simp only [Act.put, List.setIfInBounds_toArray, List.set_cons_zero, List.set_cons_succ, i64_w, i32_w]
          rfl
         refine pure_ (i := 6) (N := some 79) (v := ?_) (a' := ?_) #[true, true, true, true, true, true, true, true, false, false, false, false, false] rfl rfl (any_of HT_.out (by kernel_rfl)) (fun _ _ _ h => h) (Or.inl ⟨by rfl, ?_⟩) ?_ ?_
         rotate_left
         ·
          intro w'
          go_simp
          with_reducible rfl
         rotate_left
         ·
          simp only [Act.put, List.setIfInBounds_toArray, List.set_cons_zero, List.set_cons_succ, i64_w, i32_w]
          rfl
         refine pure_ (i := 8) (N := some 81) (v := ?_) (a' := ?_) #[true, true, true, true, true, true, true, true, true, false, false, false, false] rfl rfl (any_of HT_.out (by kernel_rfl)) (fun _ _ _ h => h) (Or.inl ⟨by rfl, ?_⟩) ?_ ?_
         rotate_left
         ·
          intro w'
          go_simp
          with_reducible rfl
         rotate_left
         ·
          simp only [Act.put, List.setIfInBounds_toArray, List.set_cons_zero, List.set_cons_succ, i64_w, i32_w]
          rfl
         refine take_ (i := 9) (N := some 82) (v := ?_) (a' := ?_) #[true, true, true, true, true, true, true, true, true, true, false, false, false] rfl rfl (take_ofW HT_.out HW_.out (by kernel_rfl)) (fun _ _ _ h => h) (Or.inl ⟨by rfl, ?_⟩) hHeld ?_ ?_
         rotate_left
         ·
          rintro w' ⟨s0, s1, s2, s3, s4, s5, s6, s7⟩
          go_simp
          with_reducible rfl
         rotate_left
         ·
          simp only [Act.put, List.setIfInBounds_toArray, List.set_cons_zero, List.set_cons_succ, i64_w, i32_w]
          rfl
         refine one_ (i := 10) (N := none) #[true, true, true, true, true, true, true, true, true, true, true, false, false] rfl rfl (one_of HT_.out (by kernel_rfl)) (by decide) (fun K hK => ?_)
         have hs112 : w110.cell? ⟨gb253, 0, none⟩ = some (.int .i64 0) := (blk_cell BK253.out 0).trans rfl
         have hfs112 := blk_frozen BK253.out 0
         have hns112_0 := NB250_253.out
         have hns112_1 := NB251_253.out
         have hns112_2 := NB252_253.out
         have hns112_4 := NB254_253.out
         have hns112_5 := NB265_253.out
         have hms112_0 := NB253_250.out
         have hms112_1 := NB253_251.out
         have hms112_2 := NB253_252.out
         have hms112_4 := NB253_254.out
         have hms112_5 := NB253_265.out
         have hs113 : w110.cell? ⟨gb253, 1, none⟩ = some (.int .u64 0) := (blk_cell BK253.out 1).trans rfl
         have hfs113 := blk_frozen BK253.out 1
         have hns113_0 := NB250_253.out
         have hns113_1 := NB251_253.out
         have hns113_2 := NB252_253.out
         have hns113_4 := NB254_253.out
         have hns113_5 := NB265_253.out
         have hms113_0 := NB253_250.out
         have hms113_1 := NB253_251.out
         have hms113_2 := NB253_252.out
         have hms113_4 := NB253_254.out
         have hms113_5 := NB253_265.out
         have hs114 : w110.cell? ⟨gb253, 2, none⟩ = some (.slice none 0 0) := (blk_cell BK253.out 2).trans rfl
         have hfs114 := blk_frozen BK253.out 2
         have hns114_0 := NB250_253.out
         have hns114_1 := NB251_253.out
         have hns114_2 := NB252_253.out
         have hns114_4 := NB254_253.out
         have hns114_5 := NB265_253.out
         have hms114_0 := NB253_250.out
         have hms114_1 := NB253_251.out
         have hms114_2 := NB253_252.out
         have hms114_4 := NB253_254.out
         have hms114_5 := NB253_265.out
         refine skip_ (w1 := ?_) (by rfl) rfl ?_ ?_
         rotate_left
         ·
          go_simp
          rfl
         refine hK.out _ _ ⟨((cell_far (p := ⟨gb253, _, none⟩) NB250_253.out _).trans (((cell_far (p := ⟨gb253, _, none⟩) NB250_253.out _).trans (((cell_far (p := ⟨gb253, _, none⟩) NB250_253.out _).trans (hHeld.1)))))), ((cell_far (p := ⟨gb253, _, none⟩) NB250_253.out _).trans (((cell_far (p := ⟨gb253, _, none⟩) NB250_253.out _).trans (((cell_far (p := ⟨gb253, _, none⟩) NB250_253.out _).trans (hHeld.2.1)))))), ((cell_far (p := ⟨gb253, _, none⟩) NB250_253.out _).trans (((cell_far (p := ⟨gb253, _, none⟩) NB250_253.out _).trans (((cell_far (p := ⟨gb253, _, none⟩) NB250_253.out _).trans (hHeld.2.2.1)))))), ((cell_far (p := ⟨gb253, _, none⟩) NB251_253.out _).trans (((cell_far (p := ⟨gb253, _, none⟩) NB251_253.out _).trans (((cell_far (p := ⟨gb253, _, none⟩) NB251_253.out _).trans (hHeld.2.2.2.1)))))), ((cell_far (p := ⟨gb253, _, none⟩) NB251_253.out _).trans (((cell_far (p := ⟨gb253, _, none⟩) NB251_253.out _).trans (((cell_far (p := ⟨gb253, _, none⟩) NB251_253.out _).trans (hHeld.2.2.2.2.1)))))), ((cell_far (p := ⟨gb253, _, none⟩) NB251_253.out _).trans (((cell_far (p := ⟨gb253, _, none⟩) NB251_253.out _).trans (((cell_far (p := ⟨gb253, _, none⟩) NB251_253.out _).trans (hHeld.2.2.2.2.2.1)))))), ((cell_far (p := ⟨gb253, _, none⟩) NB265_253.out _).trans (((cell_far (p := ⟨gb253, _, none⟩) NB265_253.out _).trans (((cell_far (p := ⟨gb253, _, none⟩) NB265_253.out _).trans (hHeld.2.2.2.2.2.2.1)))))), ((cell_far (p := ⟨gb253, _, none⟩) NB265_253.out _).trans (((cell_far (p := ⟨gb253, _, none⟩) NB265_253.out _).trans (((cell_far (p := ⟨gb253, _, none⟩) NB265_253.out _).trans (hHeld.2.2.2.2.2.2.2))))))⟩ (fun hHeld => ?_)
         clear hK K
         refine one_ (i := 11) (N := none) #[true, true, true, true, true, true, true, true, true, true, true, true, false] rfl rfl (one_of HT_.out (by kernel_rfl)) (by decide) (fun K hK => ?_)
         have hs115 : w110.cell? ⟨gb254, 0, none⟩ = some (.slice none 0 0) := (blk_cell BK254.out 0).trans rfl
         have hfs115 := blk_frozen BK254.out 0
         have hns115_0 := NB250_254.out
         have hns115_1 := NB251_254.out
         have hns115_2 := NB252_254.out
         have hns115_3 := NB253_254.out
         have hns115_5 := NB265_254.out
         have hms115_0 := NB254_250.out
         have hms115_1 := NB254_251.out
         have hms115_2 := NB254_252.out
         have hms115_3 := NB254_253.out
         have hms115_5 := NB254_265.out
         have hs116 : w110.cell? ⟨gb254, 1, none⟩ = some (.int .i64 0) := (blk_cell BK254.out 1).trans rfl
         have hfs116 := blk_frozen BK254.out 1
         have hns116_0 := NB250_254.out
         have hns116_1 := NB251_254.out
         have hns116_2 := NB252_254.out
         have hns116_3 := NB253_254.out
         have hns116_5 := NB265_254.out
         have hms116_0 := NB254_250.out
         have hms116_1 := NB254_251.out
         have hms116_2 := NB254_252.out
         have hms116_3 := NB254_253.out
         have hms116_5 := NB254_265.out
         refine skip_ (w1 := ?_) (by rfl) rfl ?_ ?_
         rotate_left
         ·
          go_simp
          rfl
         refine hK.out _ _ ⟨((cell_far (p := ⟨gb254, _, none⟩) NB250_254.out _).trans (((cell_far (p := ⟨gb254, _, none⟩) NB250_254.out _).trans (hHeld.1)))), ((cell_far (p := ⟨gb254, _, none⟩) NB250_254.out _).trans (((cell_far (p := ⟨gb254, _, none⟩) NB250_254.out _).trans (hHeld.2.1)))), ((cell_far (p := ⟨gb254, _, none⟩) NB250_254.out _).trans (((cell_far (p := ⟨gb254, _, none⟩) NB250_254.out _).trans (hHeld.2.2.1)))), ((cell_far (p := ⟨gb254, _, none⟩) NB251_254.out _).trans (((cell_far (p := ⟨gb254, _, none⟩) NB251_254.out _).trans (hHeld.2.2.2.1)))), ((cell_far (p := ⟨gb254, _, none⟩) NB251_254.out _).trans (((cell_far (p := ⟨gb254, _, none⟩) NB251_254.out _).trans (hHeld.2.2.2.2.1)))), ((cell_far (p := ⟨gb254, _, none⟩) NB251_254.out _).trans (((cell_far (p := ⟨gb254, _, none⟩) NB251_254.out _).trans (hHeld.2.2.2.2.2.1)))), ((cell_far (p := ⟨gb254, _, none⟩) NB265_254.out _).trans (((cell_far (p := ⟨gb254, _, none⟩) NB265_254.out _).trans (hHeld.2.2.2.2.2.2.1)))), ((cell_far (p := ⟨gb254, _, none⟩) NB265_254.out _).trans (((cell_far (p := ⟨gb254, _, none⟩) NB265_254.out _).trans (hHeld.2.2.2.2.2.2.2))))⟩ (fun hHeld => ?_)
         clear hK K
         refine pure_ (i := 12) (N := some 8) (v := ?_) (a' := ?_) #[true, true, true, true, true, true, true, true, true, true, true, true, true] rfl rfl (any_of HT_.out (by kernel_rfl)) (fun _ _ _ h => h) (Or.inl ⟨by rfl, ?_⟩) ?_ ?_
         rotate_left
         ·
          intro w'
          go_simp
          with_reducible rfl
         rotate_left
         ·
          simp only [Act.put, List.setIfInBounds_toArray, List.set_cons_zero, List.set_cons_succ, i64_w, i32_w]
          rfl
         refine done_ (done_of HT_.out (by kernel_rfl)) ?_
         try go_wp2
         refine bodyPost_ret (results_list (rs := [.cell 6 27, .cell 7 33, .tmp 8]) rfl (by simp) (.cell gb253 27 #[.int .i64 a0_0, .int .u64 (IntKind.u64.wrap (a0_1 + a1_1)), .slice Ao111 t257.length co111] (0, 0) _ rfl (by (with_reducible repeat (first | refine blk_drewN ?_ _ | refine blk_drew ?_ | refine blk_alloc ?_ _)); refine blk_far ?_ NB253_254.out _; (with_reducible repeat (first | refine blk_drewN ?_ _ | refine blk_drew ?_ | refine blk_alloc ?_ _)); refine blk_far ?_ NB253_254.out _; (with_reducible repeat (first | refine blk_drewN ?_ _ | refine blk_drew ?_ | refine blk_alloc ?_ _)); refine blk_put (cs := #[.int .i64 a0_0, .int .u64 (IntKind.u64.wrap (a0_1 + a1_1)), .slice none 0 0]) ?_ 2 _ rfl; (with_reducible repeat (first | refine blk_drewN ?_ _ | refine blk_drew ?_ | refine blk_alloc ?_ _)); refine blk_put (cs := #[.int .i64 a0_0, .int .u64 0, .slice none 0 0]) ?_ 1 _ rfl; (with_reducible repeat (first | refine blk_drewN ?_ _ | refine blk_drew ?_ | refine blk_alloc ?_ _)); refine blk_put (cs := #[.int .i64 0, .int .u64 0, .slice none 0 0]) ?_ 0 _ rfl; (with_reducible repeat (first | refine blk_drewN ?_ _ | refine blk_drew ?_ | refine blk_alloc ?_ _)); exact BK253.out) Try.underlying27 rfl (by kernel_rfl) (.cell gb254 33 #[.slice Ao102 t260.length co102, .int .i64 t263] (0, 0) _ rfl (by (with_reducible repeat (first | refine blk_drewN ?_ _ | refine blk_drew ?_ | refine blk_alloc ?_ _)); refine blk_put (cs := #[.slice Ao102 t260.length co102, .int .i64 0]) ?_ 1 _ rfl; (with_reducible repeat (first | refine blk_drewN ?_ _ | refine blk_drew ?_ | refine blk_alloc ?_ _)); refine blk_put (cs := #[.slice none 0 0, .int .i64 0]) ?_ 0 _ rfl; (with_reducible repeat (first | refine blk_drewN ?_ _ | refine blk_drew ?_ | refine blk_alloc ?_ _)); refine blk_far ?_ NB254_253.out _; (with_reducible repeat (first | refine blk_drewN ?_ _ | refine blk_drew ?_ | refine blk_alloc ?_ _)); refine blk_far ?_ NB254_253.out _; (with_reducible repeat (first | refine blk_drewN ?_ _ | refine blk_drew ?_ | refine blk_alloc ?_ _)); refine blk_far ?_ NB254_253.out _; (with_reducible repeat (first | refine blk_drewN ?_ _ | refine blk_drew ?_ | refine blk_alloc ?_ _)); exact BK254.out) Try.underlying33 rfl (by kernel_rfl) (.tmp .nil)))) rfl ?_
         exact ⟨_, _, by first | rfl | (simp [errW_none, errW_some] <;> rfl) | (simp [*, errW_none, errW_some] <;> rfl), Kd.V_mono (Kd.R_V (by (with_reducible repeat (first | apply Kd.R_alloc | apply Kd.R_drewN | apply Kd.R_drew)); exact Kd.R_mono (Kd.R_far (p := ⟨gb254, 1, none⟩) (Kd.R_far (p := ⟨gb254, 0, none⟩) (Kd.R_far (p := ⟨gb253, 2, none⟩) (Kd.R_far (p := ⟨gb253, 1, none⟩) (Kd.R_far (p := ⟨gb253, 0, none⟩) (Kd.R_types (Kd.R_types HO259.out BK253.out (by decide)) BK254.out (by decide)) (fun _ hk => hk.1.2) (.int .i64 a0_0)) (fun _ hk => hk.1.2) (.int .u64 (IntKind.u64.wrap (a0_1 + a1_1)))) (fun _ hk => hk.1.2) (.slice Ao111 t257.length co111)) (fun _ hk => hk.2) (.slice Ao102 t260.length co102)) (fun _ hk => hk.2) (.int .i64 t263)) (fun _ hk => hk.1.1))) (fun k_ hk => by first | exact ⟨(.inr (hk.1)), hk.2⟩ | exact (.inr (hk))), by (with_reducible repeat (first | apply Kd.V_alloc | apply Kd.V_drewN | apply Kd.V_drew)); exact Kd.V_mono (Kd.V_far (p := ⟨gb254, 1, none⟩) (Kd.V_far (p := ⟨gb254, 0, none⟩) (Kd.V_far (p := ⟨gb253, 2, none⟩) (Kd.V_far (p := ⟨gb253, 1, none⟩) (Kd.V_far (p := ⟨gb253, 0, none⟩) (Kd.V_mono (Kd.V_mono HO262.out (fun k_ hk => (⟨hk, hk.2.2.2.2.2.1⟩ : _ ∧ k_ ≠ gb253))) (fun k_ hk => (⟨hk, hk.1.2.2.2.2.2.2.1⟩ : _ ∧ k_ ≠ gb254))) (fun _ hk => hk.1.2) (.int .i64 a0_0)) (fun _ hk => hk.1.2) (.int .u64 (IntKind.u64.wrap (a0_1 + a1_1)))) (fun _ hk => hk.1.2) (.slice Ao111 t257.length co111)) (fun _ hk => hk.2) (.slice Ao102 t260.length co102)) (fun _ hk => hk.2) (.int .i64 t263)) (fun _ hk => hk.1.1.1), by repeat (first | (with_reducible first | exact HB.out | apply below_alloc | apply pw_below_drewN | apply below_drew1 | refine below_set ?_ GE250.out | refine below_set ?_ GE251.out | refine below_set ?_ GE252.out | refine below_set ?_ GE253.out | refine below_set ?_ GE254.out | refine below_set ?_ GE265.out) | exact HB.out)⟩
        ·
         rw [if_neg c87] at H; cases H
    ·
     rw [if_neg c37] at H; cases H

end Go.Proofs.Ytabfaoghacamlaa.Q
