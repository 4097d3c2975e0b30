/- Walks of Go functions, each against a plain function over numbers and lists; written by this session's program printx.py over the kit's print; no condition but those that each theorem states. -/
import Derived.Test.YtabfaoghacamlaaFx0
import Derived.Test.YtabfaoghacamlaaFx2
namespace Go.Proofs.Ytabfaoghacamlaa.F
open Go.Proofs.Ytabfaoghacamlaa.Q
open Go.RowKit Go.Proofs.YtabfaoghacamlaaW.PrintWords Go.Proofs.YtabfaoghacamlaaW.PrintLast Go.Proofs.YtabfaoghacamlaaW.PrintMore
attribute [local go_sem] max2_int min2_int max_two min_two max_three min_three max_four min_four   -- for this text's walks alone
set_option linter.unusedVariables false
set_option linter.unusedSimpArgs false

/-! ### slots_Merge: function 18 -/
def slots_Merge.j0 : Nat → Bool → Int → Int → List ByteArray → Int → Int → List ByteArray → List Int → Int → Option (Int × Int × List ByteArray × List Int × Int × Int)
 | 0, _, _, _, _, _, _, _, _, _ => none
 | k + 1, x12, x224000, x224001, x224002, x225000, x225001, x225002, x226000, x226001 => if x12 = true then (none) else (if x224000 = x225000 then (if (IntKind.u64.wrap (x224001 + x225001)) < x224001 then (none) else (if x225001 = 0 then (some (x224000, x224001, x224002, x226000, x226001, 0)) else (if x224001 = 0 then (some (x225000, x225001, x225002, x226000, x226001, 0)) else (none)))) else (none))
def slots_Merge.f (k : Nat) (a0_0 : Int) (a0_1 : Int) (l0_2 : List ByteArray) (a1_0 : Int) (a1_1 : Int) (l1_2 : List ByteArray) (l2_0 : List Int) (a2_1 : Int) : Option (Int × Int × List ByteArray × List Int × Int × Int) := (slots_Right.f a0_0 a0_1 l0_2).bind fun t228 => (if t228 = true then ((slots_Right.f a1_0 a1_1 l1_2).bind fun t229 => (slots_Merge.j0 k (!t229) a0_0 a0_1 l0_2 a1_0 a1_1 l1_2 l2_0 a2_1)) else (slots_Merge.j0 k true a0_0 a0_1 l0_2 a1_0 a1_1 l1_2 l2_0 a2_1))
theorem slots_Merge.mono_l : ∀ k, (∀ y0 y1 y2 y3 y4 y5 y6 y7 y8, LeO (slots_Merge.j0 k y0 y1 y2 y3 y4 y5 y6 y7 y8) (slots_Merge.j0 (k + 1) y0 y1 y2 y3 y4 y5 y6 y7 y8))
 | 0 => fun _ _ _ _ _ _ _ _ _ r h => by simp [slots_Merge.j0] at h
 | k + 1 => by
  have ih0 := slots_Merge.mono_l k
  ·
   intro y0 y1 y2 y3 y4 y5 y6 y7 y8
   unfold slots_Merge.j0
   repeat' first
   | (with_reducible exact ih0 _ _ _ _ _ _ _ _ _)
   | (with_reducible exact slots_choose.mono _ _ _ _ _ _ _)
   | (with_reducible exact LeO.refl _)
   | (with_reducible exact LeO.none _)
   | (with_reducible refine LeO.ite ?_ ?_)
   | (with_reducible refine LeO.bind ?_ (fun _ => ?_))
   | exact ih0 _ _ _ _ _ _ _ _ _
   | exact slots_choose.mono _ _ _ _ _ _ _
   | exact LeO.none _
   | refine LeO.ite ?_ ?_
   | refine LeO.bind ?_ (fun _ => ?_)
theorem slots_Merge.mono : ∀ a0 a1 a2 a3 a4 a5 a6 a7 k, LeO (slots_Merge.f k a0 a1 a2 a3 a4 a5 a6 a7) (slots_Merge.f (k + 1) a0 a1 a2 a3 a4 a5 a6 a7) := by
 intro a0 a1 a2 a3 a4 a5 a6 a7 k
 have ih0 := slots_Merge.mono_l k
 unfold slots_Merge.f
 repeat' first
   | (with_reducible exact ih0 _ _ _ _ _ _ _ _ _)
   | (with_reducible exact slots_choose.mono _ _ _ _ _ _ _)
   | (with_reducible exact LeO.refl _)
   | (with_reducible exact LeO.none _)
   | (with_reducible refine LeO.ite ?_ ?_)
   | (with_reducible refine LeO.bind ?_ (fun _ => ?_))
   | exact ih0 _ _ _ _ _ _ _ _ _
   | exact slots_choose.mono _ _ _ _ _ _ _
   | exact LeO.none _
   | refine LeO.ite ?_ ?_
   | refine LeO.bind ?_ (fun _ => ?_)
def slots_Merge.T14 : Bool × List (List Nat × List Nat) := (true, [([], []), ([0], [0]), ([], []), ([2], [2]), ([], []), ([4], [4]), ([3, 5], [3, 5]), ([], []), ([1, 6, 7], [1, 6, 7]), ([], []), ([8, 0, 1, 2, 3, 4, 5, 6, 7, 8], [8]), ([9, 10, 0, 1, 2, 3, 4, 5, 6, 7, 8, 9, 10], [9]), ([11, 0, 1, 2, 3, 4, 5, 6, 7, 8, 9, 10, 11], [])])
def slots_Merge.B14 : List Nat := [0, 1, 0, 4, 0, 16, 60, 0, 255, 0, 511, 2047, 4095]
theorem slots_Merge.tab14 : rtab .any (opsOf Try.f18 14) = slots_Merge.T14 := by kernel_rfl
theorem slots_Merge.bits14 : waitsOk slots_Merge.T14.2 slots_Merge.B14 = true := by kernel_rfl
set_option maxHeartbeats 8000000 in
set_option maxRecDepth 100000 in
theorem slots_Merge.calls (k : Nat) (a0_0 : Int) (a0_1 : Int) (P0_2_ : Nat → Prop) (A0_2 : Option Addr) (c0_2 : Nat) (l0_2 : List ByteArray) (a1_0 : Int) (a1_1 : Int) (P1_2_ : Nat → Prop) (A1_2 : Option Addr) (c1_2 : Nat) (l1_2 : List ByteArray) (P2_0_ : Nat → Prop) (A2_0 : Option Addr) (c2_0 : Nat) (l2_0 : List Int) (a2_1 : Int) (r1 : Int) (r2 : Int) (r3 : List ByteArray) (r4 : List Int) (r5 : Int) (r6 : Int) (w : World) (hs0_2 : Kd.V Kd.string 9 w w.heap.size (fun k_ => P0_2_ k_) (.slice A0_2 l0_2.length c0_2) l0_2) (hs1_2 : Kd.V Kd.string 9 w w.heap.size (fun k_ => P1_2_ k_) (.slice A1_2 l1_2.length c1_2) l1_2) (hs2_0 : Kd.V (Kd.int .u64) 24 w w.heap.size (fun k_ => P2_0_ k_) (.slice A2_0 l2_0.length c2_0) l2_0) (h : slots_Merge.f k a0_0 a0_1 l0_2 a1_0 a1_1 l1_2 l2_0 a2_1 = some (r1, r2, r3, r4, r5, r6)) :
  Calls Try.prog 18 #[.agg #[.int .i64 a0_0, .int .u64 a0_1, .slice A0_2 l0_2.length c0_2], .agg #[.int .i64 a1_0, .int .u64 a1_1, .slice A1_2 l1_2.length c1_2], .agg #[.slice A2_0 l2_0.length c2_0, .int .i64 a2_1]] w fun e w' => ∃ v2_ v3_ : Value, e = .returned (.tuple #[.agg #[.int .i64 r1, .int .u64 r2, v2_], .agg #[v3_, .int .i64 r5], .int .i64 r6]) ∧ Kd.V Kd.string 9 w' w.heap.size (fun k_ => ((P0_2_ k_ ∨ P1_2_ k_ ∨ P2_0_ k_) ∨ w.heap.size ≤ k_)) v2_ r3 ∧ Kd.V (Kd.int .u64) 24 w' w.heap.size (fun k_ => ((P0_2_ k_ ∨ P1_2_ k_ ∨ P2_0_ k_) ∨ w.heap.size ≤ k_)) v3_ r4 ∧ Below w.heap.size w w' := by
 have hu27 := Try.underlying27
 have hu33 := Try.underlying33
 have HO0_2 := Aside0.mk (show Kd.V Kd.string 9 w w.heap.size (fun k_ => ((P0_2_ k_ ∨ P1_2_ k_ ∨ P2_0_ k_) ∨ w.heap.size ≤ k_)) (.slice A0_2 l0_2.length c0_2) l0_2 from Kd.V_mono hs0_2 (fun k_ hk => .inl (.inl hk)))
 have HO1_2 := Aside0.mk (show Kd.V Kd.string 9 w w.heap.size (fun k_ => ((P0_2_ k_ ∨ P1_2_ k_ ∨ P2_0_ k_) ∨ w.heap.size ≤ k_)) (.slice A1_2 l1_2.length c1_2) l1_2 from Kd.V_mono hs1_2 (fun k_ hk => .inl (.inr (.inl hk))))
 have HO2_0 := Aside0.mk (show Kd.V (Kd.int .u64) 24 w w.heap.size (fun k_ => ((P0_2_ k_ ∨ P1_2_ k_ ∨ P2_0_ k_) ∨ w.heap.size ≤ k_)) (.slice A2_0 l2_0.length c2_0) l2_0 from Kd.V_mono hs2_0 (fun k_ hk => .inl (.inr (.inr hk))))
 have HB := Aside0.mk (Below.refl w.heap.size w)
 have H : ((slots_Right.f a0_0 a0_1 l0_2).bind fun t228 => (if t228 = true then ((slots_Right.f a1_0 a1_1 l1_2).bind fun t229 => (slots_Merge.j0 k (!t229) a0_0 a0_1 l0_2 a1_0 a1_1 l1_2 l2_0 a2_1)) else (slots_Merge.j0 k true a0_0 a0_1 l0_2 a1_0 a1_1 l1_2 l2_0 a2_1))) = some (r1, r2, r3, r4, r5, r6) := h
 clear h
 have HC4 := Aside0.mk H
 clear H
 go_enter Try.func18, Try.ntmps18
 go_upto_region 1 with (first | ((with_reducible refine gate_dst (N := 3) rfl ?_); refine box_event ?hg (N := 3) ?hd (cs := #[.int .i64 a0_0, .int .u64 a0_1, .slice A0_2 l0_2.length c0_2]) (t := 27) ?hr ?_; (case hd => rfl); (case hg => rfl); (case hr => first | (go_simp; done) | (go_simp; rfl)); intro gb223 hg w5 hbox hb; have n0_ := Aside0.mk (Kd.V_below (Kd.V_elderB (by (with_reducible repeat (first | apply Kd.V_alloc | apply Kd.V_drewN | apply Kd.V_drew)); exact HO0_2.out) gb223 (Nat.le_of_eq hg.symm)) hb); have n1_ := Aside0.mk (Kd.V_below (Kd.V_elderB (by (with_reducible repeat (first | apply Kd.V_alloc | apply Kd.V_drewN | apply Kd.V_drew)); exact HO1_2.out) gb223 (Nat.le_of_eq hg.symm)) hb); have n2_ := Aside0.mk (Kd.V_below (Kd.V_elderB (by (with_reducible repeat (first | apply Kd.V_alloc | apply Kd.V_drewN | apply Kd.V_drew)); exact HO2_0.out) gb223 (Nat.le_of_eq hg.symm)) hb); have n3_ := Aside0.mk (below_step (by repeat (first | (with_reducible first | exact HB.out | apply below_alloc | apply pw_below_drewN | apply below_drew1) | exact HB.out)) hb); have n4_ := Aside0.mk (hbox); have n5_ := Aside0.mk ((by rw [hg]; exact (below_size (by repeat (first | (with_reducible first | exact HB.out | apply below_alloc | apply pw_below_drewN | apply below_drew1) | exact HB.out))) : w.heap.size ≤ gb223)); have n6_ := Aside0.mk ((by rw [hg]; exact (below_size (by repeat (first | (with_reducible first | exact HB.out | apply below_alloc | apply pw_below_drewN | apply below_drew1) | exact HB.out))) : w.heap.size ≤ gb223)); clear HO0_2; clear HO1_2; clear HO2_0; clear HB; have HO0_2 := n0_; have HO1_2 := n1_; have HO2_0 := n2_; have HB := n3_; have BK223 := n4_; have GW223 := n5_; have GE223 := n6_; clear n0_ n1_ n2_ n3_ n4_ n5_ n6_; clear hb hbox hg) | ((with_reducible refine gate_dst (N := 4) rfl ?_); refine box_event ?hg (N := 4) ?hd (cs := #[.int .i64 a1_0, .int .u64 a1_1, .slice A1_2 l1_2.length c1_2]) (t := 27) ?hr ?_; (case hd => rfl); (case hg => rfl); (case hr => first | (go_simp; done) | (go_simp; rfl)); intro gb224 hg w6 hbox hb; have n0_ := Aside0.mk (Kd.V_below (Kd.V_elderB (by (with_reducible repeat (first | apply Kd.V_alloc | apply Kd.V_drewN | apply Kd.V_drew)); exact HO0_2.out) gb224 (Nat.le_of_eq hg.symm)) hb); have n1_ := Aside0.mk (Kd.V_below (Kd.V_elderB (by (with_reducible repeat (first | apply Kd.V_alloc | apply Kd.V_drewN | apply Kd.V_drew)); exact HO1_2.out) gb224 (Nat.le_of_eq hg.symm)) hb); have n2_ := Aside0.mk (Kd.V_below (Kd.V_elderB (by (with_reducible repeat (first | apply Kd.V_alloc | apply Kd.V_drewN | apply Kd.V_drew)); exact HO2_0.out) gb224 (Nat.le_of_eq hg.symm)) hb); have n3_ := Aside0.mk (blk_below (g := gb223) (o := .cells #[.int .i64 a0_0, .int .u64 a0_1, .slice A0_2 l0_2.length c0_2] 27 (0, 0)) (by (with_reducible repeat (first | refine blk_drewN ?_ _ | refine blk_drew ?_ | refine blk_alloc ?_ _)); exact BK223.out) hb); have n4_ := Aside0.mk (below_step (by repeat (first | (with_reducible first | exact HB.out | apply below_alloc | apply pw_below_drewN | apply below_drew1 | refine below_set ?_ GE223.out) | exact HB.out)) hb); have n5_ := Aside0.mk (hbox); have n6_ := Aside0.mk ((by rw [hg]; exact (below_size (by repeat (first | (with_reducible first | exact HB.out | apply below_alloc | apply pw_below_drewN | apply below_drew1 | refine below_set ?_ GE223.out) | exact HB.out))) : w.heap.size ≤ gb224)); have n7_ := Aside0.mk ((by rw [hg]; exact (below_size (by repeat (first | (with_reducible first | exact HB.out | apply below_alloc | apply pw_below_drewN | apply below_drew1 | refine below_set ?_ GE223.out) | exact HB.out))) : w.heap.size ≤ gb224)); have n8_ := Aside0.mk ((by rw [hg]; exact Nat.ne_of_lt (blk_lt (g := gb223) (o := .cells #[.int .i64 a0_0, .int .u64 a0_1, .slice A0_2 l0_2.length c0_2] 27 (0, 0)) (by (with_reducible repeat (first | refine blk_drewN ?_ _ | refine blk_drew ?_ | refine blk_alloc ?_ _)); exact BK223.out)) : gb223 ≠ gb224)); have n9_ := Aside0.mk ((by rw [hg]; exact Nat.ne_of_gt (blk_lt (g := gb223) (o := .cells #[.int .i64 a0_0, .int .u64 a0_1, .slice A0_2 l0_2.length c0_2] 27 (0, 0)) (by (with_reducible repeat (first | refine blk_drewN ?_ _ | refine blk_drew ?_ | refine blk_alloc ?_ _)); exact BK223.out)) : gb224 ≠ gb223)); clear HO0_2; clear HO1_2; clear HO2_0; clear BK223; clear HB; have HO0_2 := n0_; have HO1_2 := n1_; have HO2_0 := n2_; have BK223 := n3_; have HB := n4_; have BK224 := n5_; have GW224 := n6_; have GE224 := n7_; have NB223_224 := n8_; have NB224_223 := n9_; clear n0_ n1_ n2_ n3_ n4_ n5_ n6_ n7_ n8_ n9_; clear hb hbox hg) | ((with_reducible refine gate_dst (N := 5) rfl ?_); refine box_event ?hg (N := 5) ?hd (cs := #[.slice A2_0 l2_0.length c2_0, .int .i64 a2_1]) (t := 33) ?hr ?_; (case hd => rfl); (case hg => rfl); (case hr => first | (go_simp; done) | (go_simp; rfl)); intro gb225 hg w7 hbox hb; have n0_ := Aside0.mk (Kd.V_below (Kd.V_elderB (by (with_reducible repeat (first | apply Kd.V_alloc | apply Kd.V_drewN | apply Kd.V_drew)); exact HO0_2.out) gb225 (Nat.le_of_eq hg.symm)) hb); have n1_ := Aside0.mk (Kd.V_below (Kd.V_elderB (by (with_reducible repeat (first | apply Kd.V_alloc | apply Kd.V_drewN | apply Kd.V_drew)); exact HO1_2.out) gb225 (Nat.le_of_eq hg.symm)) hb); have n2_ := Aside0.mk (Kd.V_below (Kd.V_elderB (by (with_reducible repeat (first | apply Kd.V_alloc | apply Kd.V_drewN | apply Kd.V_drew)); exact HO2_0.out) gb225 (Nat.le_of_eq hg.symm)) hb); have n3_ := Aside0.mk (blk_below (g := gb223) (o := .cells #[.int .i64 a0_0, .int .u64 a0_1, .slice A0_2 l0_2.length c0_2] 27 (0, 0)) (by (with_reducible repeat (first | refine blk_drewN ?_ _ | refine blk_drew ?_ | refine blk_alloc ?_ _)); exact BK223.out) hb); have n4_ := Aside0.mk (blk_below (g := gb224) (o := .cells #[.int .i64 a1_0, .int .u64 a1_1, .slice A1_2 l1_2.length c1_2] 27 (0, 0)) (by (with_reducible repeat (first | refine blk_drewN ?_ _ | refine blk_drew ?_ | refine blk_alloc ?_ _)); exact BK224.out) hb); have n5_ := Aside0.mk (below_step (by repeat (first | (with_reducible first | exact HB.out | apply below_alloc | apply pw_below_drewN | apply below_drew1 | refine below_set ?_ GE223.out | refine below_set ?_ GE224.out) | exact HB.out)) hb); have n6_ := Aside0.mk (hbox); have n7_ := Aside0.mk ((by rw [hg]; exact (below_size (by repeat (first | (with_reducible first | exact HB.out | apply below_alloc | apply pw_below_drewN | apply below_drew1 | refine below_set ?_ GE223.out | refine below_set ?_ GE224.out) | exact HB.out))) : w.heap.size ≤ gb225)); have n8_ := Aside0.mk ((by rw [hg]; exact (below_size (by repeat (first | (with_reducible first | exact HB.out | apply below_alloc | apply pw_below_drewN | apply below_drew1 | refine below_set ?_ GE223.out | refine below_set ?_ GE224.out) | exact HB.out))) : w.heap.size ≤ gb225)); have n9_ := Aside0.mk ((by rw [hg]; exact Nat.ne_of_lt (blk_lt (g := gb223) (o := .cells #[.int .i64 a0_0, .int .u64 a0_1, .slice A0_2 l0_2.length c0_2] 27 (0, 0)) (by (with_reducible repeat (first | refine blk_drewN ?_ _ | refine blk_drew ?_ | refine blk_alloc ?_ _)); exact BK223.out)) : gb223 ≠ gb225)); have n10_ := Aside0.mk ((by rw [hg]; exact Nat.ne_of_gt (blk_lt (g := gb223) (o := .cells #[.int .i64 a0_0, .int .u64 a0_1, .slice A0_2 l0_2.length c0_2] 27 (0, 0)) (by (with_reducible repeat (first | refine blk_drewN ?_ _ | refine blk_drew ?_ | refine blk_alloc ?_ _)); exact BK223.out)) : gb225 ≠ gb223)); have n11_ := Aside0.mk ((by rw [hg]; exact Nat.ne_of_lt (blk_lt (g := gb224) (o := .cells #[.int .i64 a1_0, .int .u64 a1_1, .slice A1_2 l1_2.length c1_2] 27 (0, 0)) (by (with_reducible repeat (first | refine blk_drewN ?_ _ | refine blk_drew ?_ | refine blk_alloc ?_ _)); exact BK224.out)) : gb224 ≠ gb225)); have n12_ := Aside0.mk ((by rw [hg]; exact Nat.ne_of_gt (blk_lt (g := gb224) (o := .cells #[.int .i64 a1_0, .int .u64 a1_1, .slice A1_2 l1_2.length c1_2] 27 (0, 0)) (by (with_reducible repeat (first | refine blk_drewN ?_ _ | refine blk_drew ?_ | refine blk_alloc ?_ _)); exact BK224.out)) : gb225 ≠ gb224)); clear HO0_2; clear HO1_2; clear HO2_0; clear BK223; clear BK224; clear HB; have HO0_2 := n0_; have HO1_2 := n1_; have HO2_0 := n2_; have BK223 := n3_; have BK224 := n4_; have HB := n5_; have BK225 := n6_; have GW225 := n7_; have GE225 := n8_; have NB223_225 := n9_; have NB225_223 := n10_; have NB224_225 := n11_; have NB225_224 := n12_; clear n0_ n1_ n2_ n3_ n4_ n5_ n6_ n7_ n8_ n9_ n10_ n11_ n12_; clear hb hbox hg) | ((with_reducible refine gate_dst (N := 6) rfl ?_); refine box_event ?hg (N := 6) ?hd (cs := #[.int .i64 0, .int .u64 0, .slice none 0 0]) (t := 27) ?hr ?_; (case hd => rfl); (case hg => rfl); (case hr => first | (go_simp; done) | (go_simp; rfl)); intro gb226 hg w8 hbox hb; have n0_ := Aside0.mk (Kd.V_below (Kd.V_elderB (by (with_reducible repeat (first | apply Kd.V_alloc | apply Kd.V_drewN | apply Kd.V_drew)); exact HO0_2.out) gb226 (Nat.le_of_eq hg.symm)) hb); have n1_ := Aside0.mk (Kd.V_below (Kd.V_elderB (by (with_reducible repeat (first | apply Kd.V_alloc | apply Kd.V_drewN | apply Kd.V_drew)); exact HO1_2.out) gb226 (Nat.le_of_eq hg.symm)) hb); have n2_ := Aside0.mk (Kd.V_below (Kd.V_elderB (by (with_reducible repeat (first | apply Kd.V_alloc | apply Kd.V_drewN | apply Kd.V_drew)); exact HO2_0.out) gb226 (Nat.le_of_eq hg.symm)) hb); have n3_ := Aside0.mk (blk_below (g := gb223) (o := .cells #[.int .i64 a0_0, .int .u64 a0_1, .slice A0_2 l0_2.length c0_2] 27 (0, 0)) (by (with_reducible repeat (first | refine blk_drewN ?_ _ | refine blk_drew ?_ | refine blk_alloc ?_ _)); exact BK223.out) hb); have n4_ := Aside0.mk (blk_below (g := gb224) (o := .cells #[.int .i64 a1_0, .int .u64 a1_1, .slice A1_2 l1_2.length c1_2] 27 (0, 0)) (by (with_reducible repeat (first | refine blk_drewN ?_ _ | refine blk_drew ?_ | refine blk_alloc ?_ _)); exact BK224.out) hb); have n5_ := Aside0.mk (blk_below (g := gb225) (o := .cells #[.slice A2_0 l2_0.length c2_0, .int .i64 a2_1] 33 (0, 0)) (by (with_reducible repeat (first | refine blk_drewN ?_ _ | refine blk_drew ?_ | refine blk_alloc ?_ _)); exact BK225.out) hb); have n6_ := Aside0.mk (below_step (by repeat (first | (with_reducible first | exact HB.out | apply below_alloc | apply pw_below_drewN | apply below_drew1 | refine below_set ?_ GE223.out | refine below_set ?_ GE224.out | refine below_set ?_ GE225.out) | exact HB.out)) hb); have n7_ := Aside0.mk (hbox); have n8_ := Aside0.mk ((by rw [hg]; exact (below_size (by repeat (first | (with_reducible first | exact HB.out | apply below_alloc | apply pw_below_drewN | apply below_drew1 | refine below_set ?_ GE223.out | refine below_set ?_ GE224.out | refine below_set ?_ GE225.out) | exact HB.out))) : w.heap.size ≤ gb226)); have n9_ := Aside0.mk ((by rw [hg]; exact (below_size (by repeat (first | (with_reducible first | exact HB.out | apply below_alloc | apply pw_below_drewN | apply below_drew1 | refine below_set ?_ GE223.out | refine below_set ?_ GE224.out | refine below_set ?_ GE225.out) | exact HB.out))) : w.heap.size ≤ gb226)); have n10_ := Aside0.mk ((by rw [hg]; exact Nat.ne_of_lt (blk_lt (g := gb223) (o := .cells #[.int .i64 a0_0, .int .u64 a0_1, .slice A0_2 l0_2.length c0_2] 27 (0, 0)) (by (with_reducible repeat (first | refine blk_drewN ?_ _ | refine blk_drew ?_ | refine blk_alloc ?_ _)); exact BK223.out)) : gb223 ≠ gb226)); have n11_ := Aside0.mk ((by rw [hg]; exact Nat.ne_of_gt (blk_lt (g := gb223) (o := .cells #[.int .i64 a0_0, .int .u64 a0_1, .slice A0_2 l0_2.length c0_2] 27 (0, 0)) (by (with_reducible repeat (first | refine blk_drewN ?_ _ | refine blk_drew ?_ | refine blk_alloc ?_ _)); exact BK223.out)) : gb226 ≠ gb223)); have n12_ := Aside0.mk ((by rw [hg]; exact Nat.ne_of_lt (blk_lt (g := gb224) (o := .cells #[.int .i64 a1_0, .int .u64 a1_1, .slice A1_2 l1_2.length c1_2] 27 (0, 0)) (by (with_reducible repeat (first | refine blk_drewN ?_ _ | refine blk_drew ?_ | refine blk_alloc ?_ _)); exact BK224.out)) : gb224 ≠ gb226)); have n13_ := Aside0.mk ((by rw [hg]; exact Nat.ne_of_gt (blk_lt (g := gb224) (o := .cells #[.int .i64 a1_0, .int .u64 a1_1, .slice A1_2 l1_2.length c1_2] 27 (0, 0)) (by (with_reducible repeat (first | refine blk_drewN ?_ _ | refine blk_drew ?_ | refine blk_alloc ?_ _)); exact BK224.out)) : gb226 ≠ gb224)); have n14_ := Aside0.mk ((by rw [hg]; exact Nat.ne_of_lt (blk_lt (g := gb225) (o := .cells #[.slice A2_0 l2_0.length c2_0, .int .i64 a2_1] 33 (0, 0)) (by (with_reducible repeat (first | refine blk_drewN ?_ _ | refine blk_drew ?_ | refine blk_alloc ?_ _)); exact BK225.out)) : gb225 ≠ gb226)); have n15_ := Aside0.mk ((by rw [hg]; exact Nat.ne_of_gt (blk_lt (g := gb225) (o := .cells #[.slice A2_0 l2_0.length c2_0, .int .i64 a2_1] 33 (0, 0)) (by (with_reducible repeat (first | refine blk_drewN ?_ _ | refine blk_drew ?_ | refine blk_alloc ?_ _)); exact BK225.out)) : gb226 ≠ gb225)); clear HO0_2; clear HO1_2; clear HO2_0; clear BK223; clear BK224; clear BK225; clear HB; have HO0_2 := n0_; have HO1_2 := n1_; have HO2_0 := n2_; have BK223 := n3_; have BK224 := n4_; have BK225 := n5_; have HB := n6_; have BK226 := n7_; have GW226 := n8_; have GE226 := n9_; have NB223_226 := n10_; have NB226_223 := n11_; have NB224_226 := n12_; have NB226_224 := n13_; have NB225_226 := n14_; have NB226_225 := n15_; clear n0_ n1_ n2_ n3_ n4_ n5_ n6_ n7_ n8_ n9_ n10_ n11_ n12_ n13_ n14_ n15_; clear hb hbox hg) | ((with_reducible refine gate_dst (N := 7) rfl ?_); refine box_event ?hg (N := 7) ?hd (cs := #[.slice none 0 0, .int .i64 0]) (t := 33) ?hr ?_; (case hd => rfl); (case hg => rfl); (case hr => first | (go_simp; done) | (go_simp; rfl)); intro gb227 hg w9 hbox hb; have n0_ := Aside0.mk (Kd.V_below (Kd.V_elderB (by (with_reducible repeat (first | apply Kd.V_alloc | apply Kd.V_drewN | apply Kd.V_drew)); exact HO0_2.out) gb227 (Nat.le_of_eq hg.symm)) hb); have n1_ := Aside0.mk (Kd.V_below (Kd.V_elderB (by (with_reducible repeat (first | apply Kd.V_alloc | apply Kd.V_drewN | apply Kd.V_drew)); exact HO1_2.out) gb227 (Nat.le_of_eq hg.symm)) hb); have n2_ := Aside0.mk (Kd.V_below (Kd.V_elderB (by (with_reducible repeat (first | apply Kd.V_alloc | apply Kd.V_drewN | apply Kd.V_drew)); exact HO2_0.out) gb227 (Nat.le_of_eq hg.symm)) hb); have n3_ := Aside0.mk (blk_below (g := gb223) (o := .cells #[.int .i64 a0_0, .int .u64 a0_1, .slice A0_2 l0_2.length c0_2] 27 (0, 0)) (by (with_reducible repeat (first | refine blk_drewN ?_ _ | refine blk_drew ?_ | refine blk_alloc ?_ _)); exact BK223.out) hb); have n4_ := Aside0.mk (blk_below (g := gb224) (o := .cells #[.int .i64 a1_0, .int .u64 a1_1, .slice A1_2 l1_2.length c1_2] 27 (0, 0)) (by (with_reducible repeat (first | refine blk_drewN ?_ _ | refine blk_drew ?_ | refine blk_alloc ?_ _)); exact BK224.out) hb); have n5_ := Aside0.mk (blk_below (g := gb225) (o := .cells #[.slice A2_0 l2_0.length c2_0, .int .i64 a2_1] 33 (0, 0)) (by (with_reducible repeat (first | refine blk_drewN ?_ _ | refine blk_drew ?_ | refine blk_alloc ?_ _)); exact BK225.out) hb); have n6_ := Aside0.mk (blk_below (g := gb226) (o := .cells #[.int .i64 0, .int .u64 0, .slice none 0 0] 27 (0, 0)) (by (with_reducible repeat (first | refine blk_drewN ?_ _ | refine blk_drew ?_ | refine blk_alloc ?_ _)); exact BK226.out) hb); have n7_ := Aside0.mk (below_step (by repeat (first | (with_reducible first | exact HB.out | apply below_alloc | apply pw_below_drewN | apply below_drew1 | refine below_set ?_ GE223.out | refine below_set ?_ GE224.out | refine below_set ?_ GE225.out | refine below_set ?_ GE226.out) | exact HB.out)) hb); have n8_ := Aside0.mk (hbox); have n9_ := Aside0.mk ((by rw [hg]; exact (below_size (by repeat (first | (with_reducible first | exact HB.out | apply below_alloc | apply pw_below_drewN | apply below_drew1 | refine below_set ?_ GE223.out | refine below_set ?_ GE224.out | refine below_set ?_ GE225.out | refine below_set ?_ GE226.out) | exact HB.out))) : w.heap.size ≤ gb227)); have n10_ := Aside0.mk ((by rw [hg]; exact (below_size (by repeat (first | (with_reducible first | exact HB.out | apply below_alloc | apply pw_below_drewN | apply below_drew1 | refine below_set ?_ GE223.out | refine below_set ?_ GE224.out | refine below_set ?_ GE225.out | refine below_set ?_ GE226.out) | exact HB.out))) : w.heap.size ≤ gb227)); have n11_ := Aside0.mk ((by rw [hg]; exact Nat.ne_of_lt (blk_lt (g := gb223) (o := .cells #[.int .i64 a0_0, .int .u64 a0_1, .slice A0_2 l0_2.length c0_2] 27 (0, 0)) (by (with_reducible repeat (first | refine blk_drewN ?_ _ | refine blk_drew ?_ | refine blk_alloc ?_ _)); exact BK223.out)) : gb223 ≠ gb227)); have n12_ := Aside0.mk ((by rw [hg]; exact Nat.ne_of_gt (blk_lt (g := gb223) (o := .cells #[.int .i64 a0_0, .int .u64 a0_1, .slice A0_2 l0_2.length c0_2] 27 (0, 0)) (by (with_reducible repeat (first | refine blk_drewN ?_ _ | refine blk_drew ?_ | refine blk_alloc ?_ _)); exact BK223.out)) : gb227 ≠ gb223)); have n13_ := Aside0.mk ((by rw [hg]; exact Nat.ne_of_lt (blk_lt (g := gb224) (o := .cells #[.int .i64 a1_0, .int .u64 a1_1, .slice A1_2 l1_2.length c1_2] 27 (0, 0)) (by (with_reducible repeat (first | refine blk_drewN ?_ _ | refine blk_drew ?_ | refine blk_alloc ?_ _)); exact BK224.out)) : gb224 ≠ gb227)); have n14_ := Aside0.mk ((by rw [hg]; exact Nat.ne_of_gt (blk_lt (g := gb224) (o := .cells #[.int .i64 a1_0, .int .u64 a1_1, .slice A1_2 l1_2.length c1_2] 27 (0, 0)) (by (with_reducible repeat (first | refine blk_drewN ?_ _ | refine blk_drew ?_ | refine blk_alloc ?_ _)); exact BK224.out)) : gb227 ≠ gb224)); have n15_ := Aside0.mk ((by rw [hg]; exact Nat.ne_of_lt (blk_lt (g := gb225) (o := .cells #[.slice A2_0 l2_0.length c2_0, .int .i64 a2_1] 33 (0, 0)) (by (with_reducible repeat (first | refine blk_drewN ?_ _ | refine blk_drew ?_ | refine blk_alloc ?_ _)); exact BK225.out)) : gb225 ≠ gb227)); have n16_ := Aside0.mk ((by rw [hg]; exact Nat.ne_of_gt (blk_lt (g := gb225) (o := .cells #[.slice A2_0 l2_0.length c2_0, .int .i64 a2_1] 33 (0, 0)) (by (with_reducible repeat (first | refine blk_drewN ?_ _ | refine blk_drew ?_ | refine blk_alloc ?_ _)); exact BK225.out)) : gb227 ≠ gb225)); have n17_ := Aside0.mk ((by rw [hg]; exact Nat.ne_of_lt (blk_lt (g := gb226) (o := .cells #[.int .i64 0, .int .u64 0, .slice none 0 0] 27 (0, 0)) (by (with_reducible repeat (first | refine blk_drewN ?_ _ | refine blk_drew ?_ | refine blk_alloc ?_ _)); exact BK226.out)) : gb226 ≠ gb227)); have n18_ := Aside0.mk ((by rw [hg]; exact Nat.ne_of_gt (blk_lt (g := gb226) (o := .cells #[.int .i64 0, .int .u64 0, .slice none 0 0] 27 (0, 0)) (by (with_reducible repeat (first | refine blk_drewN ?_ _ | refine blk_drew ?_ | refine blk_alloc ?_ _)); exact BK226.out)) : gb227 ≠ gb226)); clear HO0_2; clear HO1_2; clear HO2_0; clear BK223; clear BK224; clear BK225; clear BK226; clear HB; have HO0_2 := n0_; have HO1_2 := n1_; have HO2_0 := n2_; have BK223 := n3_; have BK224 := n4_; have BK225 := n5_; have BK226 := n6_; have HB := n7_; have BK227 := n8_; have GW227 := n9_; have GE227 := n10_; have NB223_227 := n11_; have NB227_223 := n12_; have NB224_227 := n13_; have NB227_224 := n14_; have NB225_227 := n15_; have NB227_225 := n16_; have NB226_227 := n17_; have NB227_226 := n18_; clear n0_ n1_ n2_ n3_ n4_ n5_ n6_ n7_ n8_ n9_ n10_ n11_ n12_ n13_ n14_ n15_ n16_ n17_ n18_; clear hb hbox hg))
 (try simp only [Act.put, List.setIfInBounds_toArray, List.set_cons_zero, List.set_cons_succ])
 go_cut [12] (fun v12 wc => ∃ (kq : Nat) (x12_3 : Bool), v12 = .bool x12_3 ∧ Aside0 (slots_Merge.j0 kq x12_3 a0_0 a0_1 l0_2 a1_0 a1_1 l1_2 l2_0 a2_1 = some (r1, r2, r3, r4, r5, r6)) ∧ Aside0 (kq ≤ k) ∧ Aside0 (Kd.V Kd.string 9 wc w.heap.size (fun k_ => ((P0_2_ k_ ∨ P1_2_ k_ ∨ P2_0_ k_) ∨ w.heap.size ≤ k_) ∧ k_ ≠ gb223 ∧ k_ ≠ gb224 ∧ k_ ≠ gb225 ∧ k_ ≠ gb226 ∧ k_ ≠ gb227) (.slice A0_2 l0_2.length c0_2) l0_2) ∧ Aside0 (Kd.V Kd.string 9 wc w.heap.size (fun k_ => ((P0_2_ k_ ∨ P1_2_ k_ ∨ P2_0_ k_) ∨ w.heap.size ≤ k_) ∧ k_ ≠ gb223 ∧ k_ ≠ gb224 ∧ k_ ≠ gb225 ∧ k_ ≠ gb226 ∧ k_ ≠ gb227) (.slice A1_2 l1_2.length c1_2) l1_2) ∧ Aside0 (Kd.V (Kd.int .u64) 24 wc w.heap.size (fun k_ => ((P0_2_ k_ ∨ P1_2_ k_ ∨ P2_0_ k_) ∨ w.heap.size ≤ k_) ∧ k_ ≠ gb223 ∧ k_ ≠ gb224 ∧ k_ ≠ gb225 ∧ k_ ≠ gb226 ∧ k_ ≠ gb227) (.slice A2_0 l2_0.length c2_0) l2_0) ∧ Aside0 (wc.heap[gb223]? = some (.cells #[.int .i64 a0_0, .int .u64 a0_1, (.slice A0_2 l0_2.length c0_2)] 27 (0, 0))) ∧ Aside0 (wc.heap[gb224]? = some (.cells #[.int .i64 a1_0, .int .u64 a1_1, (.slice A1_2 l1_2.length c1_2)] 27 (0, 0))) ∧ Aside0 (wc.heap[gb225]? = some (.cells #[(.slice A2_0 l2_0.length c2_0), .int .i64 a2_1] 33 (0, 0))) ∧ Aside0 (wc.heap[gb226]? = some (.cells #[.int .i64 0, .int .u64 0, (.slice none 0 0)] 27 (0, 0))) ∧ Aside0 (wc.heap[gb227]? = some (.cells #[(.slice none 0 0), .int .i64 0] 33 (0, 0))) ∧ Aside0 (Below w.heap.size w wc))
 case first =>
  have H := HC4.out
  clear HC4
  replace H := Option.bind_eq_some_iff.mp H
  obtain ⟨t228, A100, H⟩ := H
  replace H : (if t228 = true then ((slots_Right.f a1_0 a1_1 l1_2).bind fun t229 => (slots_Merge.j0 k (!t229) a0_0 a0_1 l0_2 a1_0 a1_1 l1_2 l2_0 a2_1)) else (slots_Merge.j0 k true a0_0 a0_1 l0_2 a1_0 a1_1 l1_2 l2_0 a2_1)) = some (r1, r2, r3, r4, r5, r6) := H
  have A10 := Aside0.mk A100
  clear A100
  by_cases c11 : t228 = true
  ·
   subst c11
   have H1 : ((slots_Right.f a1_0 a1_1 l1_2).bind fun t229 => (slots_Merge.j0 k (!t229) a0_0 a0_1 l0_2 a1_0 a1_1 l1_2 l2_0 a2_1)) = some (r1, r2, r3, r4, r5, r6) := by rw [if_pos rfl] at H; exact H
   clear H
   have H := H1
   clear H1
   replace H := Option.bind_eq_some_iff.mp H
   obtain ⟨t229, A120, H⟩ := H
   replace H : (slots_Merge.j0 k (!t229) a0_0 a0_1 l0_2 a1_0 a1_1 l1_2 l2_0 a2_1) = some (r1, r2, r3, r4, r5, r6) := H
   have A12 := Aside0.mk A120
   clear A120
   have H' := Aside0.mk H
   clear H
   have hnb13 := NB223_224.out
   have hnc13 := NB224_223.out
   have hnb14 := NB223_225.out
   have hnc14 := NB225_223.out
   have hnb15 := NB223_226.out
   have hnc15 := NB226_223.out
   have hnb16 := NB223_227.out
   have hnc16 := NB227_223.out
   have hcz17_0 : w9.cell? ⟨gb223, 0, none⟩ = some (.int .i64 a0_0) := (blk_cell BK223.out 0).trans rfl
   have hcz17_1 : w9.cell? ⟨gb223, 1, none⟩ = some (.int .u64 a0_1) := (blk_cell BK223.out 1).trans rfl
   have hcz17_2 : w9.cell? ⟨gb223, 2, none⟩ = some (.slice A0_2 l0_2.length c0_2) := (blk_cell BK223.out 2).trans rfl
   have hfz17_0 := blk_frozen BK223.out 0
   have hfz17_1 := blk_frozen BK223.out 1
   have hfz17_2 := blk_frozen BK223.out 2
   go_wp2_with (first | ((with_reducible refine gate_callee (f := 13) rfl ?_); refine goesL_ (some 14) rfl rfl Try.func13 (by kernel_rfl) rfl #[.agg #[.int .i64 a0_0, .int .u64 a0_1, .slice A0_2 l0_2.length c0_2]] rfl (by (try simp only [List.map_toArray, List.map_cons, List.map_nil]); first | done | rfl | (simp only [List.length_drop, List.length_take]; rfl)) ?_; (with_reducible refine (slots_Right.calls a0_0 a0_1 _ _ l0_2 true _ ?side1 ?side2 A10.out).mono ?_); (case side1 => repeat (first | exact (Kd.V_reads' HO0_2.out).2.2 | (with_reducible refine Kd.C_alloc ?_ _) | (with_reducible refine Kd.C_drewN ?_ _) | (with_reducible refine Kd.C_drew ?_))); (case side2 => exact (Kd.V_reads' HO0_2.out).2.1); rintro e w18 ⟨rfl, hb⟩; refine ⟨_, rfl, ?_⟩; have n0_ := Aside0.mk (Kd.V_below (by (with_reducible repeat (first | apply Kd.V_alloc | apply Kd.V_drewN | apply Kd.V_drew)); exact HO0_2.out) hb); have n1_ := Aside0.mk (Kd.V_below (by (with_reducible repeat (first | apply Kd.V_alloc | apply Kd.V_drewN | apply Kd.V_drew)); exact HO1_2.out) hb); have n2_ := Aside0.mk (Kd.V_below (by (with_reducible repeat (first | apply Kd.V_alloc | apply Kd.V_drewN | apply Kd.V_drew)); exact HO2_0.out) hb); have n3_ := Aside0.mk (blk_below (g := gb223) (o := .cells #[.int .i64 a0_0, .int .u64 a0_1, .slice A0_2 l0_2.length c0_2] 27 (0, 0)) (by (with_reducible repeat (first | refine blk_drewN ?_ _ | refine blk_drew ?_ | refine blk_alloc ?_ _)); exact BK223.out) hb); have n4_ := Aside0.mk (blk_below (g := gb224) (o := .cells #[.int .i64 a1_0, .int .u64 a1_1, .slice A1_2 l1_2.length c1_2] 27 (0, 0)) (by (with_reducible repeat (first | refine blk_drewN ?_ _ | refine blk_drew ?_ | refine blk_alloc ?_ _)); exact BK224.out) hb); have n5_ := Aside0.mk (blk_below (g := gb225) (o := .cells #[.slice A2_0 l2_0.length c2_0, .int .i64 a2_1] 33 (0, 0)) (by (with_reducible repeat (first | refine blk_drewN ?_ _ | refine blk_drew ?_ | refine blk_alloc ?_ _)); exact BK225.out) hb); have n6_ := Aside0.mk (blk_below (g := gb226) (o := .cells #[.int .i64 0, .int .u64 0, .slice none 0 0] 27 (0, 0)) (by (with_reducible repeat (first | refine blk_drewN ?_ _ | refine blk_drew ?_ | refine blk_alloc ?_ _)); exact BK226.out) hb); have n7_ := Aside0.mk (blk_below (g := gb227) (o := .cells #[.slice none 0 0, .int .i64 0] 33 (0, 0)) (by (with_reducible repeat (first | refine blk_drewN ?_ _ | refine blk_drew ?_ | refine blk_alloc ?_ _)); exact BK227.out) hb); have n8_ := Aside0.mk (below_step (by repeat (first | (with_reducible first | exact HB.out | apply below_alloc | apply pw_below_drewN | apply below_drew1 | refine below_set ?_ GE223.out | refine below_set ?_ GE224.out | refine below_set ?_ GE225.out | refine below_set ?_ GE226.out | refine below_set ?_ GE227.out) | exact HB.out)) hb); clear HO0_2; clear HO1_2; clear HO2_0; clear BK223; clear BK224; clear BK225; clear BK226; clear BK227; clear HB; have HO0_2 := n0_; have HO1_2 := n1_; have HO2_0 := n2_; have BK223 := n3_; have BK224 := n4_; have BK225 := n5_; have BK226 := n6_; have BK227 := n7_; have HB := n8_; clear n0_ n1_ n2_ n3_ n4_ n5_ n6_ n7_ n8_; (try clear hb); (try clear hb2); (try clear hk); (try clear hi); have hnb19 := NB224_225.out; have hnc19 := NB225_224.out; have hnb20 := NB224_226.out; have hnc20 := NB226_224.out; have hnb21 := NB224_227.out; have hnc21 := NB227_224.out; have hcz22_0 : w18.cell? ⟨gb224, 0, none⟩ = some (.int .i64 a1_0) := (blk_cell BK224.out 0).trans rfl; have hcz22_1 : w18.cell? ⟨gb224, 1, none⟩ = some (.int .u64 a1_1) := (blk_cell BK224.out 1).trans rfl; have hcz22_2 : w18.cell? ⟨gb224, 2, none⟩ = some (.slice A1_2 l1_2.length c1_2) := (blk_cell BK224.out 2).trans rfl; have hfz22_0 := blk_frozen BK224.out 0; have hfz22_1 := blk_frozen BK224.out 1; have hfz22_2 := blk_frozen BK224.out 2) | (go_at_call 13; (with_reducible refine (slots_Right.calls a1_0 a1_1 _ _ l1_2 t229 _ ?side1 ?side2 A12.out).mono ?_); (case side1 => repeat (first | exact (Kd.V_reads' HO1_2.out).2.2 | (with_reducible refine Kd.C_alloc ?_ _) | (with_reducible refine Kd.C_drewN ?_ _) | (with_reducible refine Kd.C_drew ?_))); (case side2 => exact (Kd.V_reads' HO1_2.out).2.1); rintro e w23 ⟨rfl, hb⟩; have n0_ := Aside0.mk (Kd.V_below (by (with_reducible repeat (first | apply Kd.V_alloc | apply Kd.V_drewN | apply Kd.V_drew)); exact HO0_2.out) hb); have n1_ := Aside0.mk (Kd.V_below (by (with_reducible repeat (first | apply Kd.V_alloc | apply Kd.V_drewN | apply Kd.V_drew)); exact HO1_2.out) hb); have n2_ := Aside0.mk (Kd.V_below (by (with_reducible repeat (first | apply Kd.V_alloc | apply Kd.V_drewN | apply Kd.V_drew)); exact HO2_0.out) hb); have n3_ := Aside0.mk (blk_below (g := gb223) (o := .cells #[.int .i64 a0_0, .int .u64 a0_1, .slice A0_2 l0_2.length c0_2] 27 (0, 0)) (by (with_reducible repeat (first | refine blk_drewN ?_ _ | refine blk_drew ?_ | refine blk_alloc ?_ _)); exact BK223.out) hb); have n4_ := Aside0.mk (blk_below (g := gb224) (o := .cells #[.int .i64 a1_0, .int .u64 a1_1, .slice A1_2 l1_2.length c1_2] 27 (0, 0)) (by (with_reducible repeat (first | refine blk_drewN ?_ _ | refine blk_drew ?_ | refine blk_alloc ?_ _)); exact BK224.out) hb); have n5_ := Aside0.mk (blk_below (g := gb225) (o := .cells #[.slice A2_0 l2_0.length c2_0, .int .i64 a2_1] 33 (0, 0)) (by (with_reducible repeat (first | refine blk_drewN ?_ _ | refine blk_drew ?_ | refine blk_alloc ?_ _)); exact BK225.out) hb); have n6_ := Aside0.mk (blk_below (g := gb226) (o := .cells #[.int .i64 0, .int .u64 0, .slice none 0 0] 27 (0, 0)) (by (with_reducible repeat (first | refine blk_drewN ?_ _ | refine blk_drew ?_ | refine blk_alloc ?_ _)); exact BK226.out) hb); have n7_ := Aside0.mk (blk_below (g := gb227) (o := .cells #[.slice none 0 0, .int .i64 0] 33 (0, 0)) (by (with_reducible repeat (first | refine blk_drewN ?_ _ | refine blk_drew ?_ | refine blk_alloc ?_ _)); exact BK227.out) hb); have n8_ := Aside0.mk (below_step (by repeat (first | (with_reducible first | exact HB.out | apply below_alloc | apply pw_below_drewN | apply below_drew1 | refine below_set ?_ GE223.out | refine below_set ?_ GE224.out | refine below_set ?_ GE225.out | refine below_set ?_ GE226.out | refine below_set ?_ GE227.out) | exact HB.out)) hb); clear HO0_2; clear HO1_2; clear HO2_0; clear BK223; clear BK224; clear BK225; clear BK226; clear BK227; clear HB; have HO0_2 := n0_; have HO1_2 := n1_; have HO2_0 := n2_; have BK223 := n3_; have BK224 := n4_; have BK225 := n5_; have BK226 := n6_; have BK227 := n7_; have HB := n8_; clear n0_ n1_ n2_ n3_ n4_ n5_ n6_ n7_ n8_; (try clear hb); (try clear hb2); (try clear hk); (try clear hi)))
   go_meet
   case rel => exact ⟨_, (!t229), (by first | rfl | (simp; done) | (simp [*]; done)), H', ⟨by first | omega | exact Nat.le_refl _⟩, ⟨by (with_reducible repeat (first | apply Kd.V_alloc | apply Kd.V_drewN | apply Kd.V_drew)); exact Kd.V_mono HO0_2.out (fun _ hk => ⟨hk.1.1.1.1.1, ⟨hk.1.1.1.1.2, ⟨hk.1.1.1.2, ⟨hk.1.1.2, ⟨hk.1.2, hk.2⟩⟩⟩⟩⟩)⟩, ⟨by (with_reducible repeat (first | apply Kd.V_alloc | apply Kd.V_drewN | apply Kd.V_drew)); exact Kd.V_mono HO1_2.out (fun _ hk => ⟨hk.1.1.1.1.1, ⟨hk.1.1.1.1.2, ⟨hk.1.1.1.2, ⟨hk.1.1.2, ⟨hk.1.2, hk.2⟩⟩⟩⟩⟩)⟩, ⟨by (with_reducible repeat (first | apply Kd.V_alloc | apply Kd.V_drewN | apply Kd.V_drew)); exact Kd.V_mono HO2_0.out (fun _ hk => ⟨hk.1.1.1.1.1, ⟨hk.1.1.1.1.2, ⟨hk.1.1.1.2, ⟨hk.1.1.2, ⟨hk.1.2, hk.2⟩⟩⟩⟩⟩)⟩, ⟨by (with_reducible repeat (first | refine blk_drewN ?_ _ | refine blk_drew ?_ | refine blk_alloc ?_ _)); exact BK223.out⟩, ⟨by (with_reducible repeat (first | refine blk_drewN ?_ _ | refine blk_drew ?_ | refine blk_alloc ?_ _)); exact BK224.out⟩, ⟨by (with_reducible repeat (first | refine blk_drewN ?_ _ | refine blk_drew ?_ | refine blk_alloc ?_ _)); exact BK225.out⟩, ⟨by (with_reducible repeat (first | refine blk_drewN ?_ _ | refine blk_drew ?_ | refine blk_alloc ?_ _)); exact BK226.out⟩, ⟨by (with_reducible repeat (first | refine blk_drewN ?_ _ | refine blk_drew ?_ | refine blk_alloc ?_ _)); exact BK227.out⟩, ⟨by repeat (first | (with_reducible first | exact HB.out | apply below_alloc | apply pw_below_drewN | apply below_drew1 | refine below_set ?_ GE223.out | refine below_set ?_ GE224.out | refine below_set ?_ GE225.out | refine below_set ?_ GE226.out | refine below_set ?_ GE227.out) | exact HB.out)⟩⟩
  ·
   replace c11 := Bool.eq_false_iff.mpr c11
   subst c11
   have H1 : (slots_Merge.j0 k true a0_0 a0_1 l0_2 a1_0 a1_1 l1_2 l2_0 a2_1) = some (r1, r2, r3, r4, r5, r6) := by rw [if_neg (show ¬ (false = true) by decide)] at H; exact H
   clear H
   have H := H1
   clear H1
   have H' := Aside0.mk H
   clear H
   have hnb24 := NB223_224.out
   have hnc24 := NB224_223.out
   have hnb25 := NB223_225.out
   have hnc25 := NB225_223.out
   have hnb26 := NB223_226.out
   have hnc26 := NB226_223.out
   have hnb27 := NB223_227.out
   have hnc27 := NB227_223.out
   have hcz28_0 : w9.cell? ⟨gb223, 0, none⟩ = some (.int .i64 a0_0) := (blk_cell BK223.out 0).trans rfl
   have hcz28_1 : w9.cell? ⟨gb223, 1, none⟩ = some (.int .u64 a0_1) := (blk_cell BK223.out 1).trans rfl
   have hcz28_2 : w9.cell? ⟨gb223, 2, none⟩ = some (.slice A0_2 l0_2.length c0_2) := (blk_cell BK223.out 2).trans rfl
   have hfz28_0 := blk_frozen BK223.out 0
   have hfz28_1 := blk_frozen BK223.out 1
   have hfz28_2 := blk_frozen BK223.out 2
   go_wp2_with (first | ((with_reducible refine gate_callee (f := 13) rfl ?_); refine goesL_ (some 14) rfl rfl Try.func13 (by kernel_rfl) rfl #[.agg #[.int .i64 a0_0, .int .u64 a0_1, .slice A0_2 l0_2.length c0_2]] rfl (by (try simp only [List.map_toArray, List.map_cons, List.map_nil]); first | done | rfl | (simp only [List.length_drop, List.length_take]; rfl)) ?_; (with_reducible refine (slots_Right.calls a0_0 a0_1 _ _ l0_2 false _ ?side1 ?side2 A10.out).mono ?_); (case side1 => repeat (first | exact (Kd.V_reads' HO0_2.out).2.2 | (with_reducible refine Kd.C_alloc ?_ _) | (with_reducible refine Kd.C_drewN ?_ _) | (with_reducible refine Kd.C_drew ?_))); (case side2 => exact (Kd.V_reads' HO0_2.out).2.1); rintro e w29 ⟨rfl, hb⟩; refine ⟨_, rfl, ?_⟩; have n0_ := Aside0.mk (Kd.V_below (by (with_reducible repeat (first | apply Kd.V_alloc | apply Kd.V_drewN | apply Kd.V_drew)); exact HO0_2.out) hb); have n1_ := Aside0.mk (Kd.V_below (by (with_reducible repeat (first | apply Kd.V_alloc | apply Kd.V_drewN | apply Kd.V_drew)); exact HO1_2.out) hb); have n2_ := Aside0.mk (Kd.V_below (by (with_reducible repeat (first | apply Kd.V_alloc | apply Kd.V_drewN | apply Kd.V_drew)); exact HO2_0.out) hb); have n3_ := Aside0.mk (blk_below (g := gb223) (o := .cells #[.int .i64 a0_0, .int .u64 a0_1, .slice A0_2 l0_2.length c0_2] 27 (0, 0)) (by (with_reducible repeat (first | refine blk_drewN ?_ _ | refine blk_drew ?_ | refine blk_alloc ?_ _)); exact BK223.out) hb); have n4_ := Aside0.mk (blk_below (g := gb224) (o := .cells #[.int .i64 a1_0, .int .u64 a1_1, .slice A1_2 l1_2.length c1_2] 27 (0, 0)) (by (with_reducible repeat (first | refine blk_drewN ?_ _ | refine blk_drew ?_ | refine blk_alloc ?_ _)); exact BK224.out) hb); have n5_ := Aside0.mk (blk_below (g := gb225) (o := .cells #[.slice A2_0 l2_0.length c2_0, .int .i64 a2_1] 33 (0, 0)) (by (with_reducible repeat (first | refine blk_drewN ?_ _ | refine blk_drew ?_ | refine blk_alloc ?_ _)); exact BK225.out) hb); have n6_ := Aside0.mk (blk_below (g := gb226) (o := .cells #[.int .i64 0, .int .u64 0, .slice none 0 0] 27 (0, 0)) (by (with_reducible repeat (first | refine blk_drewN ?_ _ | refine blk_drew ?_ | refine blk_alloc ?_ _)); exact BK226.out) hb); have n7_ := Aside0.mk (blk_below (g := gb227) (o := .cells #[.slice none 0 0, .int .i64 0] 33 (0, 0)) (by (with_reducible repeat (first | refine blk_drewN ?_ _ | refine blk_drew ?_ | refine blk_alloc ?_ _)); exact BK227.out) hb); have n8_ := Aside0.mk (below_step (by repeat (first | (with_reducible first | exact HB.out | apply below_alloc | apply pw_below_drewN | apply below_drew1 | refine below_set ?_ GE223.out | refine below_set ?_ GE224.out | refine below_set ?_ GE225.out | refine below_set ?_ GE226.out | refine below_set ?_ GE227.out) | exact HB.out)) hb); clear HO0_2; clear HO1_2; clear HO2_0; clear BK223; clear BK224; clear BK225; clear BK226; clear BK227; clear HB; have HO0_2 := n0_; have HO1_2 := n1_; have HO2_0 := n2_; have BK223 := n3_; have BK224 := n4_; have BK225 := n5_; have BK226 := n6_; have BK227 := n7_; have HB := n8_; clear n0_ n1_ n2_ n3_ n4_ n5_ n6_ n7_ n8_; (try clear hb); (try clear hb2); (try clear hk); (try clear hi)))
   go_meet
   case rel => exact ⟨_, (true), (by first | rfl | (simp; done) | (simp [*]; done)), H', ⟨by first | omega | exact Nat.le_refl _⟩, ⟨by (with_reducible repeat (first | apply Kd.V_alloc | apply Kd.V_drewN | apply Kd.V_drew)); exact Kd.V_mono HO0_2.out (fun _ hk => ⟨hk.1.1.1.1.1, ⟨hk.1.1.1.1.2, ⟨hk.1.1.1.2, ⟨hk.1.1.2, ⟨hk.1.2, hk.2⟩⟩⟩⟩⟩)⟩, ⟨by (with_reducible repeat (first | apply Kd.V_alloc | apply Kd.V_drewN | apply Kd.V_drew)); exact Kd.V_mono HO1_2.out (fun _ hk => ⟨hk.1.1.1.1.1, ⟨hk.1.1.1.1.2, ⟨hk.1.1.1.2, ⟨hk.1.1.2, ⟨hk.1.2, hk.2⟩⟩⟩⟩⟩)⟩, ⟨by (with_reducible repeat (first | apply Kd.V_alloc | apply Kd.V_drewN | apply Kd.V_drew)); exact Kd.V_mono HO2_0.out (fun _ hk => ⟨hk.1.1.1.1.1, ⟨hk.1.1.1.1.2, ⟨hk.1.1.1.2, ⟨hk.1.1.2, ⟨hk.1.2, hk.2⟩⟩⟩⟩⟩)⟩, ⟨by (with_reducible repeat (first | refine blk_drewN ?_ _ | refine blk_drew ?_ | refine blk_alloc ?_ _)); exact BK223.out⟩, ⟨by (with_reducible repeat (first | refine blk_drewN ?_ _ | refine blk_drew ?_ | refine blk_alloc ?_ _)); exact BK224.out⟩, ⟨by (with_reducible repeat (first | refine blk_drewN ?_ _ | refine blk_drew ?_ | refine blk_alloc ?_ _)); exact BK225.out⟩, ⟨by (with_reducible repeat (first | refine blk_drewN ?_ _ | refine blk_drew ?_ | refine blk_alloc ?_ _)); exact BK226.out⟩, ⟨by (with_reducible repeat (first | refine blk_drewN ?_ _ | refine blk_drew ?_ | refine blk_alloc ?_ _)); exact BK227.out⟩, ⟨by repeat (first | (with_reducible first | exact HB.out | apply below_alloc | apply pw_below_drewN | apply below_drew1 | refine below_set ?_ GE223.out | refine below_set ?_ GE224.out | refine below_set ?_ GE225.out | refine below_set ?_ GE226.out | refine below_set ?_ GE227.out) | exact HB.out)⟩⟩
 case rest =>
  clear HC4
  try clear c1
  try clear c2
  try clear p2
  try clear c11
  try clear c13
  try clear c14
  try clear c15
  try clear c16
  try clear c18
  try clear c19
  try clear c20
  try clear c21
  try clear c24
  try clear c25
  try clear c26
  try clear c27
  try clear hcz17_0
  try clear hcz17_1
  try clear hcz17_2
  try clear hcz22_0
  try clear hcz22_1
  try clear hcz22_2
  try clear hcz28_0
  try clear hcz28_1
  try clear hcz28_2
  try clear hfz17_0
  try clear hfz17_1
  try clear hfz17_2
  try clear hfz22_0
  try clear hfz22_1
  try clear hfz22_2
  try clear hfz28_0
  try clear hfz28_1
  try clear hfz28_2
  obtain ⟨kq, x12_3, rfl, HA, HJ3, HO_224002, HO_225002, HO_226000, BK223, BK224, BK225, BK226, BK227, HB⟩ := hcut
  cases kq with
  | zero => exact absurd HA.out (by simp [slots_Merge.j0])
  | succ kj3 =>
   have H := HA.out
   clear HA
   simp only [slots_Merge.j0] at H
   by_cases c30 : x12_3 = true
   ·
    rw [if_pos c30] at H; cases H
   ·
    replace c30 := Bool.eq_false_iff.mpr c30
    subst c30
    have H1 : (if a0_0 = a1_0 then (if (IntKind.u64.wrap (a0_1 + a1_1)) < a0_1 then (none) else (if a1_1 = 0 then (some (a0_0, a0_1, l0_2, l2_0, a2_1, 0)) else (if a0_1 = 0 then (some (a1_0, a1_1, l1_2, l2_0, a2_1, 0)) else (none)))) else (none)) = some (r1, r2, r3, r4, r5, r6) := by rw [if_neg (show ¬ (false = true) by decide)] at H; exact H
    clear H
    have H := H1
    clear H1
    by_cases c37 : a0_0 = a1_0
    ·
     rw [if_pos c37] at H
     have c37b0 : (a0_0 == a1_0) = true := beq_iff_eq.mpr c37
     have c37b1 : (a0_0 != a1_0) = false := bne_eq_false_iff_eq.mpr c37
     clear c37
     by_cases c38 : (IntKind.u64.wrap (a0_1 + a1_1)) < a0_1
     ·
      rw [if_pos c38] at H; cases H
     ·
      rw [if_neg c38] at H
      have c38b0 : decide ((IntKind.u64.wrap (a0_1 + a1_1)) < a0_1) = false := decide_eq_false c38
      clear c38
      by_cases c54 : a1_1 = 0
      ·
       rw [if_pos c54] at H
       have c54b0 : (a1_1 == 0) = true := beq_iff_eq.mpr c54
       have c54b1 : (a1_1 != 0) = false := bne_eq_false_iff_eq.mpr c54
       clear c54
       simp only [Option.some.injEq, Prod.mk.injEq] at H
       obtain ⟨rfl, rfl, rfl, rfl, rfl, rfl⟩ := H
       have hnb55 := NB223_224.out
       have hnc55 := NB224_223.out
       have hnb56 := NB223_225.out
       have hnc56 := NB225_223.out
       have hnb57 := NB223_226.out
       have hnc57 := NB226_223.out
       have hnb58 := NB223_227.out
       have hnc58 := NB227_223.out
       have hcz59_0 : wc.cell? ⟨gb223, 0, none⟩ = some (.int .i64 a0_0) := (blk_cell BK223.out 0).trans rfl
       have hcz59_1 : wc.cell? ⟨gb223, 1, none⟩ = some (.int .u64 a0_1) := (blk_cell BK223.out 1).trans rfl
       have hcz59_2 : wc.cell? ⟨gb223, 2, none⟩ = some (.slice A0_2 l0_2.length c0_2) := (blk_cell BK223.out 2).trans rfl
       have hfz59_0 := blk_frozen BK223.out 0
       have hfz59_1 := blk_frozen BK223.out 1
       have hfz59_2 := blk_frozen BK223.out 2
       have hnb60 := NB224_225.out
       have hnc60 := NB225_224.out
       have hnb61 := NB224_226.out
       have hnc61 := NB226_224.out
       have hnb62 := NB224_227.out
       have hnc62 := NB227_224.out
       have hcz63_0 : wc.cell? ⟨gb224, 0, none⟩ = some (.int .i64 a1_0) := (blk_cell BK224.out 0).trans rfl
       have hcz63_1 : wc.cell? ⟨gb224, 1, none⟩ = some (.int .u64 a1_1) := (blk_cell BK224.out 1).trans rfl
       have hcz63_2 : wc.cell? ⟨gb224, 2, none⟩ = some (.slice A1_2 l1_2.length c1_2) := (blk_cell BK224.out 2).trans rfl
       have hfz63_0 := blk_frozen BK224.out 0
       have hfz63_1 := blk_frozen BK224.out 1
       have hfz63_2 := blk_frozen BK224.out 2
       try go_wp2
       have n0_ := Aside0.mk (Kd.V_drew HO_224002.out)
       have n1_ := Aside0.mk (Kd.V_drew HO_225002.out)
       have n2_ := Aside0.mk (Kd.V_drew HO_226000.out)
       have n3_ := Aside0.mk (blk_drew BK223.out)
       have n4_ := Aside0.mk (blk_drew BK224.out)
       have n5_ := Aside0.mk (blk_drew BK225.out)
       have n6_ := Aside0.mk (blk_drew BK226.out)
       have n7_ := Aside0.mk (blk_drew BK227.out)
       have n8_ := Aside0.mk (below_drew1 HB.out)
       clear HO_224002
       clear HO_225002
       clear HO_226000
       clear BK223
       clear BK224
       clear BK225
       clear BK226
       clear BK227
       clear HB
       have HO_224002 := n0_
       have HO_225002 := n1_
       have HO_226000 := n2_
       have BK223 := n3_
       have BK224 := n4_
       have BK225 := n5_
       have BK226 := n6_
       have BK227 := n7_
       have HB := n8_
       clear n0_ n1_ n2_ n3_ n4_ n5_ n6_ n7_ n8_
       refine start_ (n := 5) (S := fun w' => w'.cell? ⟨gb223, 0, none⟩ = some (.int .i64 a0_0) ∧ w'.cell? ⟨gb223, 1, none⟩ = some (.int .u64 a0_1) ∧ w'.cell? ⟨gb223, 2, none⟩ = some (.slice A0_2 l0_2.length c0_2) ∧ w'.cell? ⟨gb225, 0, none⟩ = some (.slice A2_0 l2_0.length c2_0) ∧ w'.cell? ⟨gb225, 1, none⟩ = some (.int .i64 a2_1)) (ds := []) #[false, false, false, false, false] (by kernel_rfl) rfl rfl ⟨(blk_cell BK223.out 0).trans rfl, (blk_cell BK223.out 1).trans rfl, (blk_cell BK223.out 2).trans rfl, (blk_cell BK225.out 0).trans rfl, (blk_cell BK225.out 1).trans rfl⟩ (fun hHeld => ?_)
       generalize wc.drew = w64 at HO_224002 HO_225002 HO_226000 BK223 BK224 BK225 BK226 BK227 HB hHeld ⊢
       refine take_ (i := 0) (N := some 46) (v := ?_) (a' := ?_) #[true, false, false, false, false] rfl rfl (by kernel_rfl) (fun _ _ _ h => h) (Or.inl ⟨by rfl, ?_⟩) hHeld ?_ ?_
       rotate_left
       ·
        rintro w' ⟨s0, s1, s2, s3, s4⟩
        go_simp
        with_reducible rfl
       rotate_left
       ·
        simp only [Act.put, List.setIfInBounds_toArray, List.set_cons_zero, List.set_cons_succ, i64_w, i32_w]
        rfl
       refine take_ (i := 1) (N := some 47) (v := ?_) (a' := ?_) #[true, true, false, false, false] rfl rfl (by kernel_rfl) (fun _ _ _ h => h) (Or.inl ⟨by rfl, ?_⟩) hHeld ?_ ?_
       rotate_left
       ·
        rintro w' ⟨s0, s1, s2, s3, s4⟩
        go_simp
        with_reducible rfl
       rotate_left
       ·
        simp only [Act.put, List.setIfInBounds_toArray, List.set_cons_zero, List.set_cons_succ, i64_w, i32_w]
        rfl
       refine one_ (i := 2) (N := none) #[true, true, true, false, false] rfl rfl (by kernel_rfl) (by decide) (fun K hK => ?_)
       have hs65 : w64.cell? ⟨gb226, 0, none⟩ = some (.int .i64 0) := (blk_cell BK226.out 0).trans rfl
       have hfs65 := blk_frozen BK226.out 0
       have hns65_0 := NB223_226.out
       have hns65_1 := NB224_226.out
       have hns65_2 := NB225_226.out
       have hns65_4 := NB227_226.out
       have hms65_0 := NB226_223.out
       have hms65_1 := NB226_224.out
       have hms65_2 := NB226_225.out
       have hms65_4 := NB226_227.out
       have hs66 : w64.cell? ⟨gb226, 1, none⟩ = some (.int .u64 0) := (blk_cell BK226.out 1).trans rfl
       have hfs66 := blk_frozen BK226.out 1
       have hns66_0 := NB223_226.out
       have hns66_1 := NB224_226.out
       have hns66_2 := NB225_226.out
       have hns66_4 := NB227_226.out
       have hms66_0 := NB226_223.out
       have hms66_1 := NB226_224.out
       have hms66_2 := NB226_225.out
       have hms66_4 := NB226_227.out
       have hs67 : w64.cell? ⟨gb226, 2, none⟩ = some (.slice none 0 0) := (blk_cell BK226.out 2).trans rfl
       have hfs67 := blk_frozen BK226.out 2
       have hns67_0 := NB223_226.out
       have hns67_1 := NB224_226.out
       have hns67_2 := NB225_226.out
       have hns67_4 := NB227_226.out
       have hms67_0 := NB226_223.out
       have hms67_1 := NB226_224.out
       have hms67_2 := NB226_225.out
       have hms67_4 := NB226_227.out
       refine skip_ (w1 := ?_) (by rfl) rfl ?_ ?_
       rotate_left
       ·
        go_simp
        rfl
       refine hK.out _ _ ⟨((cell_far (p := ⟨gb226, _, none⟩) NB223_226.out _).trans (((cell_far (p := ⟨gb226, _, none⟩) NB223_226.out _).trans (((cell_far (p := ⟨gb226, _, none⟩) NB223_226.out _).trans (hHeld.1)))))), ((cell_far (p := ⟨gb226, _, none⟩) NB223_226.out _).trans (((cell_far (p := ⟨gb226, _, none⟩) NB223_226.out _).trans (((cell_far (p := ⟨gb226, _, none⟩) NB223_226.out _).trans (hHeld.2.1)))))), ((cell_far (p := ⟨gb226, _, none⟩) NB223_226.out _).trans (((cell_far (p := ⟨gb226, _, none⟩) NB223_226.out _).trans (((cell_far (p := ⟨gb226, _, none⟩) NB223_226.out _).trans (hHeld.2.2.1)))))), ((cell_far (p := ⟨gb226, _, none⟩) NB225_226.out _).trans (((cell_far (p := ⟨gb226, _, none⟩) NB225_226.out _).trans (((cell_far (p := ⟨gb226, _, none⟩) NB225_226.out _).trans (hHeld.2.2.2.1)))))), ((cell_far (p := ⟨gb226, _, none⟩) NB225_226.out _).trans (((cell_far (p := ⟨gb226, _, none⟩) NB225_226.out _).trans (((cell_far (p := ⟨gb226, _, none⟩) NB225_226.out _).trans (hHeld.2.2.2.2))))))⟩ (fun hHeld => ?_)
       clear hK K
       refine one_ (i := 3) (N := none) #[true, true, true, true, false] rfl rfl (by kernel_rfl) (by decide) (fun K hK => ?_)
       have hs68 : w64.cell? ⟨gb227, 0, none⟩ = some (.slice none 0 0) := (blk_cell BK227.out 0).trans rfl
       have hfs68 := blk_frozen BK227.out 0
       have hns68_0 := NB223_227.out
       have hns68_1 := NB224_227.out
       have hns68_2 := NB225_227.out
       have hns68_3 := NB226_227.out
       have hms68_0 := NB227_223.out
       have hms68_1 := NB227_224.out
       have hms68_2 := NB227_225.out
       have hms68_3 := NB227_226.out
       have hs69 : w64.cell? ⟨gb227, 1, none⟩ = some (.int .i64 0) := (blk_cell BK227.out 1).trans rfl
       have hfs69 := blk_frozen BK227.out 1
       have hns69_0 := NB223_227.out
       have hns69_1 := NB224_227.out
       have hns69_2 := NB225_227.out
       have hns69_3 := NB226_227.out
       have hms69_0 := NB227_223.out
       have hms69_1 := NB227_224.out
       have hms69_2 := NB227_225.out
       have hms69_3 := NB227_226.out
       refine skip_ (w1 := ?_) (by rfl) rfl ?_ ?_
       rotate_left
       ·
        go_simp
        rfl
       refine hK.out _ _ ⟨((cell_far (p := ⟨gb227, _, none⟩) NB223_227.out _).trans (((cell_far (p := ⟨gb227, _, none⟩) NB223_227.out _).trans (hHeld.1)))), ((cell_far (p := ⟨gb227, _, none⟩) NB223_227.out _).trans (((cell_far (p := ⟨gb227, _, none⟩) NB223_227.out _).trans (hHeld.2.1)))), ((cell_far (p := ⟨gb227, _, none⟩) NB223_227.out _).trans (((cell_far (p := ⟨gb227, _, none⟩) NB223_227.out _).trans (hHeld.2.2.1)))), ((cell_far (p := ⟨gb227, _, none⟩) NB225_227.out _).trans (((cell_far (p := ⟨gb227, _, none⟩) NB225_227.out _).trans (hHeld.2.2.2.1)))), ((cell_far (p := ⟨gb227, _, none⟩) NB225_227.out _).trans (((cell_far (p := ⟨gb227, _, none⟩) NB225_227.out _).trans (hHeld.2.2.2.2))))⟩ (fun hHeld => ?_)
       clear hK K
       refine pure_ (i := 4) (N := some 8) (v := ?_) (a' := ?_) #[true, true, true, true, true] rfl rfl (by kernel_rfl) (fun _ _ _ h => h) (Or.inl ⟨by rfl, ?_⟩) ?_ ?_
       rotate_left
       ·
        intro w'
        go_simp
        with_reducible rfl
       rotate_left
       ·
        simp only [Act.put, List.setIfInBounds_toArray, List.set_cons_zero, List.set_cons_succ, i64_w, i32_w]
        rfl
       refine done_ (by kernel_rfl) ?_
       try go_wp2
       refine bodyPost_ret (results_list (rs := [.cell 6 27, .cell 7 33, .tmp 8]) rfl (by simp) (.cell gb226 27 #[.int .i64 a0_0, .int .u64 a0_1, .slice A0_2 l0_2.length c0_2] (0, 0) _ rfl (by (with_reducible repeat (first | refine blk_drewN ?_ _ | refine blk_drew ?_ | refine blk_alloc ?_ _)); refine blk_far ?_ NB226_227.out _; (with_reducible repeat (first | refine blk_drewN ?_ _ | refine blk_drew ?_ | refine blk_alloc ?_ _)); refine blk_far ?_ NB226_227.out _; (with_reducible repeat (first | refine blk_drewN ?_ _ | refine blk_drew ?_ | refine blk_alloc ?_ _)); refine blk_put (cs := #[.int .i64 a0_0, .int .u64 a0_1, .slice none 0 0]) ?_ 2 _ rfl; (with_reducible repeat (first | refine blk_drewN ?_ _ | refine blk_drew ?_ | refine blk_alloc ?_ _)); refine blk_put (cs := #[.int .i64 a0_0, .int .u64 0, .slice none 0 0]) ?_ 1 _ rfl; (with_reducible repeat (first | refine blk_drewN ?_ _ | refine blk_drew ?_ | refine blk_alloc ?_ _)); refine blk_put (cs := #[.int .i64 0, .int .u64 0, .slice none 0 0]) ?_ 0 _ rfl; (with_reducible repeat (first | refine blk_drewN ?_ _ | refine blk_drew ?_ | refine blk_alloc ?_ _)); exact BK226.out) Try.underlying27 rfl (by kernel_rfl) (.cell gb227 33 #[.slice A2_0 l2_0.length c2_0, .int .i64 a2_1] (0, 0) _ rfl (by (with_reducible repeat (first | refine blk_drewN ?_ _ | refine blk_drew ?_ | refine blk_alloc ?_ _)); refine blk_put (cs := #[.slice A2_0 l2_0.length c2_0, .int .i64 0]) ?_ 1 _ rfl; (with_reducible repeat (first | refine blk_drewN ?_ _ | refine blk_drew ?_ | refine blk_alloc ?_ _)); refine blk_put (cs := #[.slice none 0 0, .int .i64 0]) ?_ 0 _ rfl; (with_reducible repeat (first | refine blk_drewN ?_ _ | refine blk_drew ?_ | refine blk_alloc ?_ _)); refine blk_far ?_ NB227_226.out _; (with_reducible repeat (first | refine blk_drewN ?_ _ | refine blk_drew ?_ | refine blk_alloc ?_ _)); refine blk_far ?_ NB227_226.out _; (with_reducible repeat (first | refine blk_drewN ?_ _ | refine blk_drew ?_ | refine blk_alloc ?_ _)); refine blk_far ?_ NB227_226.out _; (with_reducible repeat (first | refine blk_drewN ?_ _ | refine blk_drew ?_ | refine blk_alloc ?_ _)); exact BK227.out) Try.underlying33 rfl (by kernel_rfl) (.tmp .nil)))) rfl ?_
       exact ⟨_, _, by first | rfl | (simp [errW_none, errW_some] <;> rfl) | (simp [*, errW_none, errW_some] <;> rfl), by (with_reducible repeat (first | apply Kd.V_alloc | apply Kd.V_drewN | apply Kd.V_drew)); exact Kd.V_mono (Kd.V_far (p := ⟨gb227, 1, none⟩) (Kd.V_far (p := ⟨gb227, 0, none⟩) (Kd.V_far (p := ⟨gb226, 2, none⟩) (Kd.V_far (p := ⟨gb226, 1, none⟩) (Kd.V_far (p := ⟨gb226, 0, none⟩) (Kd.V_mono (Kd.V_mono HO_224002.out (fun k_ hk => (⟨hk, hk.2.2.2.2.1⟩ : _ ∧ k_ ≠ gb226))) (fun k_ hk => (⟨hk, hk.1.2.2.2.2.2⟩ : _ ∧ k_ ≠ gb227))) (fun _ hk => hk.1.2) (.int .i64 a0_0)) (fun _ hk => hk.1.2) (.int .u64 a0_1)) (fun _ hk => hk.1.2) (.slice A0_2 l0_2.length c0_2)) (fun _ hk => hk.2) (.slice A2_0 l2_0.length c2_0)) (fun _ hk => hk.2) (.int .i64 a2_1)) (fun _ hk => hk.1.1.1), by (with_reducible repeat (first | apply Kd.V_alloc | apply Kd.V_drewN | apply Kd.V_drew)); exact Kd.V_mono (Kd.V_far (p := ⟨gb227, 1, none⟩) (Kd.V_far (p := ⟨gb227, 0, none⟩) (Kd.V_far (p := ⟨gb226, 2, none⟩) (Kd.V_far (p := ⟨gb226, 1, none⟩) (Kd.V_far (p := ⟨gb226, 0, none⟩) (Kd.V_mono (Kd.V_mono HO_226000.out (fun k_ hk => (⟨hk, hk.2.2.2.2.1⟩ : _ ∧ k_ ≠ gb226))) (fun k_ hk => (⟨hk, hk.1.2.2.2.2.2⟩ : _ ∧ k_ ≠ gb227))) (fun _ hk => hk.1.2) (.int .i64 a0_0)) (fun _ hk => hk.1.2) (.int .u64 a0_1)) (fun _ hk => hk.1.2) (.slice A0_2 l0_2.length c0_2)) (fun _ hk => hk.2) (.slice A2_0 l2_0.length c2_0)) (fun _ hk => hk.2) (.int .i64 a2_1)) (fun _ hk => hk.1.1.1), by repeat (first | (with_reducible first | exact HB.out | apply below_alloc | apply pw_below_drewN | apply below_drew1 | refine below_set ?_ GE223.out | refine below_set ?_ GE224.out | refine below_set ?_ GE225.out | refine below_set ?_ GE226.out | refine below_set ?_ GE227.out) | exact HB.out)⟩
      ·
       rw [if_neg c54] at H
       have c54b0 : (a1_1 == 0) = false := beq_eq_false_iff_ne.mpr c54
       have c54b1 : (a1_1 != 0) = true := bne_iff_ne.mpr c54
       by_cases c70 : a0_1 = 0
       ·
        rw [if_pos c70] at H
        have c70b0 : (a0_1 == 0) = true := beq_iff_eq.mpr c70
        have c70b1 : (a0_1 != 0) = false := bne_eq_false_iff_eq.mpr c70
        clear c70
        simp only [Option.some.injEq, Prod.mk.injEq] at H
        obtain ⟨rfl, rfl, rfl, rfl, rfl, rfl⟩ := H
        have hnb71 := NB223_224.out
        have hnc71 := NB224_223.out
        have hnb72 := NB223_225.out
        have hnc72 := NB225_223.out
        have hnb73 := NB223_226.out
        have hnc73 := NB226_223.out
        have hnb74 := NB223_227.out
        have hnc74 := NB227_223.out
        have hcz75_0 : wc.cell? ⟨gb223, 0, none⟩ = some (.int .i64 a0_0) := (blk_cell BK223.out 0).trans rfl
        have hcz75_1 : wc.cell? ⟨gb223, 1, none⟩ = some (.int .u64 a0_1) := (blk_cell BK223.out 1).trans rfl
        have hcz75_2 : wc.cell? ⟨gb223, 2, none⟩ = some (.slice A0_2 l0_2.length c0_2) := (blk_cell BK223.out 2).trans rfl
        have hfz75_0 := blk_frozen BK223.out 0
        have hfz75_1 := blk_frozen BK223.out 1
        have hfz75_2 := blk_frozen BK223.out 2
        have hnb76 := NB224_225.out
        have hnc76 := NB225_224.out
        have hnb77 := NB224_226.out
        have hnc77 := NB226_224.out
        have hnb78 := NB224_227.out
        have hnc78 := NB227_224.out
        have hcz79_0 : wc.cell? ⟨gb224, 0, none⟩ = some (.int .i64 a1_0) := (blk_cell BK224.out 0).trans rfl
        have hcz79_1 : wc.cell? ⟨gb224, 1, none⟩ = some (.int .u64 a1_1) := (blk_cell BK224.out 1).trans rfl
        have hcz79_2 : wc.cell? ⟨gb224, 2, none⟩ = some (.slice A1_2 l1_2.length c1_2) := (blk_cell BK224.out 2).trans rfl
        have hfz79_0 := blk_frozen BK224.out 0
        have hfz79_1 := blk_frozen BK224.out 1
        have hfz79_2 := blk_frozen BK224.out 2
        try go_wp2
        have n0_ := Aside0.mk (Kd.V_drew HO_224002.out)
        have n1_ := Aside0.mk (Kd.V_drew HO_225002.out)
        have n2_ := Aside0.mk (Kd.V_drew HO_226000.out)
        have n3_ := Aside0.mk (blk_drew BK223.out)
        have n4_ := Aside0.mk (blk_drew BK224.out)
        have n5_ := Aside0.mk (blk_drew BK225.out)
        have n6_ := Aside0.mk (blk_drew BK226.out)
        have n7_ := Aside0.mk (blk_drew BK227.out)
        have n8_ := Aside0.mk (below_drew1 HB.out)
        clear HO_224002
        clear HO_225002
        clear HO_226000
        clear BK223
        clear BK224
        clear BK225
        clear BK226
        clear BK227
        clear HB
        have HO_224002 := n0_
        have HO_225002 := n1_
        have HO_226000 := n2_
        have BK223 := n3_
        have BK224 := n4_
        have BK225 := n5_
        have BK226 := n6_
        have BK227 := n7_
        have HB := n8_
        clear n0_ n1_ n2_ n3_ n4_ n5_ n6_ n7_ n8_
        refine start_ (n := 5) (S := fun w' => w'.cell? ⟨gb224, 0, none⟩ = some (.int .i64 a1_0) ∧ w'.cell? ⟨gb224, 1, none⟩ = some (.int .u64 a1_1) ∧ w'.cell? ⟨gb224, 2, none⟩ = some (.slice A1_2 l1_2.length c1_2) ∧ w'.cell? ⟨gb225, 0, none⟩ = some (.slice A2_0 l2_0.length c2_0) ∧ w'.cell? ⟨gb225, 1, none⟩ = some (.int .i64 a2_1)) (ds := []) #[false, false, false, false, false] (by kernel_rfl) rfl rfl ⟨(blk_cell BK224.out 0).trans rfl, (blk_cell BK224.out 1).trans rfl, (blk_cell BK224.out 2).trans rfl, (blk_cell BK225.out 0).trans rfl, (blk_cell BK225.out 1).trans rfl⟩ (fun hHeld => ?_)
        generalize wc.drew = w80 at HO_224002 HO_225002 HO_226000 BK223 BK224 BK225 BK226 BK227 HB hHeld ⊢
        refine take_ (i := 0) (N := some 52) (v := ?_) (a' := ?_) #[true, false, false, false, false] rfl rfl (by kernel_rfl) (fun _ _ _ h => h) (Or.inl ⟨by rfl, ?_⟩) hHeld ?_ ?_
        rotate_left
        ·
         rintro w' ⟨s0, s1, s2, s3, s4⟩
         go_simp
         with_reducible rfl
        rotate_left
        ·
         simp only [Act.put, List.setIfInBounds_toArray, List.set_cons_zero, List.set_cons_succ, i64_w, i32_w]
         rfl
        refine take_ (i := 1) (N := some 53) (v := ?_) (a' := ?_) #[true, true, false, false, false] rfl rfl (by kernel_rfl) (fun _ _ _ h => h) (Or.inl ⟨by rfl, ?_⟩) hHeld ?_ ?_
        rotate_left
        ·
         rintro w' ⟨s0, s1, s2, s3, s4⟩
         go_simp
         with_reducible rfl
        rotate_left
        ·
         simp only [Act.put, List.setIfInBounds_toArray, List.set_cons_zero, List.set_cons_succ, i64_w, i32_w]
         rfl
        refine one_ (i := 2) (N := none) #[true, true, true, false, false] rfl rfl (by kernel_rfl) (by decide) (fun K hK => ?_)
        have hs81 : w80.cell? ⟨gb226, 0, none⟩ = some (.int .i64 0) := (blk_cell BK226.out 0).trans rfl
        have hfs81 := blk_frozen BK226.out 0
        have hns81_0 := NB223_226.out
        have hns81_1 := NB224_226.out
        have hns81_2 := NB225_226.out
        have hns81_4 := NB227_226.out
        have hms81_0 := NB226_223.out
        have hms81_1 := NB226_224.out
        have hms81_2 := NB226_225.out
        have hms81_4 := NB226_227.out
        have hs82 : w80.cell? ⟨gb226, 1, none⟩ = some (.int .u64 0) := (blk_cell BK226.out 1).trans rfl
        have hfs82 := blk_frozen BK226.out 1
        have hns82_0 := NB223_226.out
        have hns82_1 := NB224_226.out
        have hns82_2 := NB225_226.out
        have hns82_4 := NB227_226.out
        have hms82_0 := NB226_223.out
        have hms82_1 := NB226_224.out
        have hms82_2 := NB226_225.out
        have hms82_4 := NB226_227.out
        have hs83 : w80.cell? ⟨gb226, 2, none⟩ = some (.slice none 0 0) := (blk_cell BK226.out 2).trans rfl
        have hfs83 := blk_frozen BK226.out 2
        have hns83_0 := NB223_226.out
        have hns83_1 := NB224_226.out
        have hns83_2 := NB225_226.out
        have hns83_4 := NB227_226.out
        have hms83_0 := NB226_223.out
        have hms83_1 := NB226_224.out
        have hms83_2 := NB226_225.out
        have hms83_4 := NB226_227.out
        refine skip_ (w1 := ?_) (by rfl) rfl ?_ ?_
        rotate_left
        ·
         go_simp
         rfl
        refine hK.out _ _ ⟨((cell_far (p := ⟨gb226, _, none⟩) NB224_226.out _).trans (((cell_far (p := ⟨gb226, _, none⟩) NB224_226.out _).trans (((cell_far (p := ⟨gb226, _, none⟩) NB224_226.out _).trans (hHeld.1)))))), ((cell_far (p := ⟨gb226, _, none⟩) NB224_226.out _).trans (((cell_far (p := ⟨gb226, _, none⟩) NB224_226.out _).trans (((cell_far (p := ⟨gb226, _, none⟩) NB224_226.out _).trans (hHeld.2.1)))))), ((cell_far (p := ⟨gb226, _, none⟩) NB224_226.out _).trans (((cell_far (p := ⟨gb226, _, none⟩) NB224_226.out _).trans (((cell_far (p := ⟨gb226, _, none⟩) NB224_226.out _).trans (hHeld.2.2.1)))))), ((cell_far (p := ⟨gb226, _, none⟩) NB225_226.out _).trans (((cell_far (p := ⟨gb226, _, none⟩) NB225_226.out _).trans (((cell_far (p := ⟨gb226, _, none⟩) NB225_226.out _).trans (hHeld.2.2.2.1)))))), ((cell_far (p := ⟨gb226, _, none⟩) NB225_226.out _).trans (((cell_far (p := ⟨gb226, _, none⟩) NB225_226.out _).trans (((cell_far (p := ⟨gb226, _, none⟩) NB225_226.out _).trans (hHeld.2.2.2.2))))))⟩ (fun hHeld => ?_)
        clear hK K
        refine one_ (i := 3) (N := none) #[true, true, true, true, false] rfl rfl (by kernel_rfl) (by decide) (fun K hK => ?_)
        have hs84 : w80.cell? ⟨gb227, 0, none⟩ = some (.slice none 0 0) := (blk_cell BK227.out 0).trans rfl
        have hfs84 := blk_frozen BK227.out 0
        have hns84_0 := NB223_227.out
        have hns84_1 := NB224_227.out
        have hns84_2 := NB225_227.out
        have hns84_3 := NB226_227.out
        have hms84_0 := NB227_223.out
        have hms84_1 := NB227_224.out
        have hms84_2 := NB227_225.out
        have hms84_3 := NB227_226.out
        have hs85 : w80.cell? ⟨gb227, 1, none⟩ = some (.int .i64 0) := (blk_cell BK227.out 1).trans rfl
        have hfs85 := blk_frozen BK227.out 1
        have hns85_0 := NB223_227.out
        have hns85_1 := NB224_227.out
        have hns85_2 := NB225_227.out
        have hns85_3 := NB226_227.out
        have hms85_0 := NB227_223.out
        have hms85_1 := NB227_224.out
        have hms85_2 := NB227_225.out
        have hms85_3 := NB227_226.out
        refine skip_ (w1 := ?_) (by rfl) rfl ?_ ?_
        rotate_left
        ·
         go_simp
         rfl
        refine hK.out _ _ ⟨((cell_far (p := ⟨gb227, _, none⟩) NB224_227.out _).trans (((cell_far (p := ⟨gb227, _, none⟩) NB224_227.out _).trans (hHeld.1)))), ((cell_far (p := ⟨gb227, _, none⟩) NB224_227.out _).trans (((cell_far (p := ⟨gb227, _, none⟩) NB224_227.out _).trans (hHeld.2.1)))), ((cell_far (p := ⟨gb227, _, none⟩) NB224_227.out _).trans (((cell_far (p := ⟨gb227, _, none⟩) NB224_227.out _).trans (hHeld.2.2.1)))), ((cell_far (p := ⟨gb227, _, none⟩) NB225_227.out _).trans (((cell_far (p := ⟨gb227, _, none⟩) NB225_227.out _).trans (hHeld.2.2.2.1)))), ((cell_far (p := ⟨gb227, _, none⟩) NB225_227.out _).trans (((cell_far (p := ⟨gb227, _, none⟩) NB225_227.out _).trans (hHeld.2.2.2.2))))⟩ (fun hHeld => ?_)
        clear hK K
        refine pure_ (i := 4) (N := some 8) (v := ?_) (a' := ?_) #[true, true, true, true, true] rfl rfl (by kernel_rfl) (fun _ _ _ h => h) (Or.inl ⟨by rfl, ?_⟩) ?_ ?_
        rotate_left
        ·
         intro w'
         go_simp
         with_reducible rfl
        rotate_left
        ·
         simp only [Act.put, List.setIfInBounds_toArray, List.set_cons_zero, List.set_cons_succ, i64_w, i32_w]
         rfl
        refine done_ (by kernel_rfl) ?_
        try go_wp2
        refine bodyPost_ret (results_list (rs := [.cell 6 27, .cell 7 33, .tmp 8]) rfl (by simp) (.cell gb226 27 #[.int .i64 a1_0, .int .u64 a1_1, .slice A1_2 l1_2.length c1_2] (0, 0) _ rfl (by (with_reducible repeat (first | refine blk_drewN ?_ _ | refine blk_drew ?_ | refine blk_alloc ?_ _)); refine blk_far ?_ NB226_227.out _; (with_reducible repeat (first | refine blk_drewN ?_ _ | refine blk_drew ?_ | refine blk_alloc ?_ _)); refine blk_far ?_ NB226_227.out _; (with_reducible repeat (first | refine blk_drewN ?_ _ | refine blk_drew ?_ | refine blk_alloc ?_ _)); refine blk_put (cs := #[.int .i64 a1_0, .int .u64 a1_1, .slice none 0 0]) ?_ 2 _ rfl; (with_reducible repeat (first | refine blk_drewN ?_ _ | refine blk_drew ?_ | refine blk_alloc ?_ _)); refine blk_put (cs := #[.int .i64 a1_0, .int .u64 0, .slice none 0 0]) ?_ 1 _ rfl; (with_reducible repeat (first | refine blk_drewN ?_ _ | refine blk_drew ?_ | refine blk_alloc ?_ _)); refine blk_put (cs := #[.int .i64 0, .int .u64 0, .slice none 0 0]) ?_ 0 _ rfl; (with_reducible repeat (first | refine blk_drewN ?_ _ | refine blk_drew ?_ | refine blk_alloc ?_ _)); exact BK226.out) Try.underlying27 rfl (by kernel_rfl) (.cell gb227 33 #[.slice A2_0 l2_0.length c2_0, .int .i64 a2_1] (0, 0) _ rfl (by (with_reducible repeat (first | refine blk_drewN ?_ _ | refine blk_drew ?_ | refine blk_alloc ?_ _)); refine blk_put (cs := #[.slice A2_0 l2_0.length c2_0, .int .i64 0]) ?_ 1 _ rfl; (with_reducible repeat (first | refine blk_drewN ?_ _ | refine blk_drew ?_ | refine blk_alloc ?_ _)); refine blk_put (cs := #[.slice none 0 0, .int .i64 0]) ?_ 0 _ rfl; (with_reducible repeat (first | refine blk_drewN ?_ _ | refine blk_drew ?_ | refine blk_alloc ?_ _)); refine blk_far ?_ NB227_226.out _; (with_reducible repeat (first | refine blk_drewN ?_ _ | refine blk_drew ?_ | refine blk_alloc ?_ _)); refine blk_far ?_ NB227_226.out _; (with_reducible repeat (first | refine blk_drewN ?_ _ | refine blk_drew ?_ | refine blk_alloc ?_ _)); refine blk_far ?_ NB227_226.out _; (with_reducible repeat (first | refine blk_drewN ?_ _ | refine blk_drew ?_ | refine blk_alloc ?_ _)); exact BK227.out) Try.underlying33 rfl (by kernel_rfl) (.tmp .nil)))) rfl ?_
        exact ⟨_, _, by first | rfl | (simp [errW_none, errW_some] <;> rfl) | (simp [*, errW_none, errW_some] <;> rfl), by (with_reducible repeat (first | apply Kd.V_alloc | apply Kd.V_drewN | apply Kd.V_drew)); exact Kd.V_mono (Kd.V_far (p := ⟨gb227, 1, none⟩) (Kd.V_far (p := ⟨gb227, 0, none⟩) (Kd.V_far (p := ⟨gb226, 2, none⟩) (Kd.V_far (p := ⟨gb226, 1, none⟩) (Kd.V_far (p := ⟨gb226, 0, none⟩) (Kd.V_mono (Kd.V_mono HO_225002.out (fun k_ hk => (⟨hk, hk.2.2.2.2.1⟩ : _ ∧ k_ ≠ gb226))) (fun k_ hk => (⟨hk, hk.1.2.2.2.2.2⟩ : _ ∧ k_ ≠ gb227))) (fun _ hk => hk.1.2) (.int .i64 a1_0)) (fun _ hk => hk.1.2) (.int .u64 a1_1)) (fun _ hk => hk.1.2) (.slice A1_2 l1_2.length c1_2)) (fun _ hk => hk.2) (.slice A2_0 l2_0.length c2_0)) (fun _ hk => hk.2) (.int .i64 a2_1)) (fun _ hk => hk.1.1.1), by (with_reducible repeat (first | apply Kd.V_alloc | apply Kd.V_drewN | apply Kd.V_drew)); exact Kd.V_mono (Kd.V_far (p := ⟨gb227, 1, none⟩) (Kd.V_far (p := ⟨gb227, 0, none⟩) (Kd.V_far (p := ⟨gb226, 2, none⟩) (Kd.V_far (p := ⟨gb226, 1, none⟩) (Kd.V_far (p := ⟨gb226, 0, none⟩) (Kd.V_mono (Kd.V_mono HO_226000.out (fun k_ hk => (⟨hk, hk.2.2.2.2.1⟩ : _ ∧ k_ ≠ gb226))) (fun k_ hk => (⟨hk, hk.1.2.2.2.2.2⟩ : _ ∧ k_ ≠ gb227))) (fun _ hk => hk.1.2) (.int .i64 a1_0)) (fun _ hk => hk.1.2) (.int .u64 a1_1)) (fun _ hk => hk.1.2) (.slice A1_2 l1_2.length c1_2)) (fun _ hk => hk.2) (.slice A2_0 l2_0.length c2_0)) (fun _ hk => hk.2) (.int .i64 a2_1)) (fun _ hk => hk.1.1.1), by repeat (first | (with_reducible first | exact HB.out | apply below_alloc | apply pw_below_drewN | apply below_drew1 | refine below_set ?_ GE223.out | refine below_set ?_ GE224.out | refine below_set ?_ GE225.out | refine below_set ?_ GE226.out | refine below_set ?_ GE227.out) | exact HB.out)⟩
       ·
        rw [if_neg c70] at H; cases H
    ·
     rw [if_neg c37] at H; cases H

end Go.Proofs.Ytabfaoghacamlaa.F
