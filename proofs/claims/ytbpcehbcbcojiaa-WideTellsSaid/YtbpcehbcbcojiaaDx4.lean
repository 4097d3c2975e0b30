import Derived.Test.YtbpcehbcbcojiaaDx0
import Derived.Test.YtbpcehbcbcojiaaDx2
import Derived.Test.YtbpcehbcbcojiaaDx3
namespace Go.Proofs.Ytbpcehbcbcojiaa.D
open Go.RowKit Go.Proofs.YtbpcehbcbcojiaaW.PrintWords Go.Proofs.YtbpcehbcbcojiaaW.PrintLast Go.Proofs.YtbpcehbcbcojiaaW.PrintMore
attribute [local go_sem] max2_int min2_int max_two min_two max_three min_three max_four min_four
set_option linter.unusedVariables false
set_option linter.unusedSimpArgs false
mutual
def wide_long.l0 : Nat → Int → Int → Int → Int → Int → Int → Int → Int → Int → Option (Int × Int × Int × Int)
 | 0, _, _, _, _, _, _, _, _, _ => none
 | k + 1, x8, x110000, x110001, x111000, x111001, x114000, x114001, x115000, x115001 => if x8 ≥ 0 then (if 0 ≤ x8 then (if x8 ≥ 64 then (if 0 ≤ (wrap64 (x8 - 64)) then (wide_long.j1 k x8 (Go.bits .and .u64 (shr .u64 x110000 (wrap64 (x8 - 64))) 1) x110000 x110001 x111000 x111001 x114000 x114001 x115000 x115001) else (none)) else (wide_long.j1 k x8 (Go.bits .and .u64 (shr .u64 x110001 x8) 1) x110000 x110001 x111000 x111001 x114000 x114001 x115000 x115001)) else (none)) else (some (x114000, x114001, x115000, x115001))
def wide_long.j1 : Nat → Int → Int → Int → Int → Int → Int → Int → Int → Int → Int → Option (Int × Int × Int × Int)
 | 0, _, _, _, _, _, _, _, _, _, _ => none
 | k + 1, x8, x9, x110000, x110001, x111000, x111001, x114000, x114001, x115000, x115001 => (wide_double.f x115000 x115001 x9).bind fun bt115 => ((wide_double.f x114000 x114001 0).bind fun bt118 => (if bt115.2.2 = true then (wide_long.j2 k x8 true x110000 x110001 x111000 x111001 bt118.1 bt118.2.1 bt115.1 bt115.2.1) else ((wide_Cmp.f bt115.1 bt115.2.1 x111000 x111001).bind fun t121 => (wide_long.j2 k x8 (decide (t121 ≥ 0)) x110000 x110001 x111000 x111001 bt118.1 bt118.2.1 bt115.1 bt115.2.1))))
def wide_long.j2 : Nat → Int → Bool → Int → Int → Int → Int → Int → Int → Int → Int → Option (Int × Int × Int × Int)
 | 0, _, _, _, _, _, _, _, _, _, _ => none
 | k + 1, x8, x49, x110000, x110001, x111000, x111001, x114000, x114001, x115000, x115001 => if x49 = true then ((bits_Sub64.f x115001 x111001 0).bind fun bt122 => ((bits_Sub64.f x115000 x111000 bt122.2).bind fun bt124 => (wide_long.l0 k (wrap64 (x8 - 1)) x110000 x110001 x111000 x111001 x114000 (Go.bits .or .u64 x114001 1) bt124.1 bt122.1))) else (wide_long.l0 k (wrap64 (x8 - 1)) x110000 x110001 x111000 x111001 x114000 x114001 x115000 x115001)
end
def wide_long.f (k : Nat) (a0_0 : Int) (a0_1 : Int) (a1_0 : Int) (a1_1 : Int) : Option (Int × Int × Int × Int) := wide_long.l0 k 127 a0_0 a0_1 a1_0 a1_1 0 0 0 0
def wide_long.T14 : Bool × List (List Nat × List Nat) := (true, [([], []), ([], []), ([0, 1], [0, 1]), ([], []), ([3], [3]), ([4], [4]), ([2, 0, 1, 2], [2]), ([0, 1, 2, 3, 4, 5, 6], []), ([7, 5, 6, 0, 1, 2, 3, 4, 5, 6], [5, 7])])
def wide_long.B14 : List Nat := [0, 0, 3, 0, 8, 24, 7, 127, 255]
theorem wide_long.tab14 : rtab .any (opsOf Try.f31 14) = wide_long.T14 := by kernel_rfl
theorem wide_long.bits14 : waitsOk wide_long.T14.2 wide_long.B14 = true := by kernel_rfl
set_option maxHeartbeats 8000000 in
set_option maxRecDepth 100000 in
theorem wide_long.calls (k : Nat) (a0_0 : Int) (a0_1 : Int) (a1_0 : Int) (a1_1 : Int) (r1 : Int) (r2 : Int) (r3 : Int) (r4 : Int) (w : World) (h : wide_long.f k a0_0 a0_1 a1_0 a1_1 = some (r1, r2, r3, r4)) :
  Calls Try.prog 31 #[.agg #[.int .u64 a0_0, .int .u64 a0_1], .agg #[.int .u64 a1_0, .int .u64 a1_1]] w fun e w' => e = .returned (.tuple #[.agg #[.int .u64 r1, .int .u64 r2], .agg #[.int .u64 r3, .int .u64 r4]]) ∧ Below w.heap.size w w' := by
 have hu24 := Try.underlying24
 have HB := Aside0.mk (Below.refl w.heap.size w)
 have H : (wide_long.l0 k 127 a0_0 a0_1 a1_0 a1_1 0 0 0 0) = some (r1, r2, r3, r4) := h
 clear h
 have H' := Aside0.mk H
 clear H
 go_enter Try.func31, Try.ntmps31
 go_wp2_with (first | ((with_reducible refine gate_dst (N := 2) rfl ?_); refine box_event ?hg (N := 2) ?hd (cs := #[.int .u64 a0_0, .int .u64 a0_1]) (t := 24) ?hr ?_; (case hd => rfl); (case hg => rfl); (case hr => first | (go_simp; done) | (go_simp; rfl)); intro gb109 hg w3 hbox hb; have n0_ := Aside0.mk (below_step (bW HB.out) hb); have n1_ := Aside0.mk (hbox); have n2_ := Aside0.mk ((by rw [hg]; exact (below_size (bW HB.out)) : w.heap.size ≤ gb109)); have n3_ := Aside0.mk ((by rw [hg]; exact (below_size (bW HB.out)) : w.heap.size ≤ gb109)); clear HB; have HB := n0_; have BK109 := n1_; have GW109 := n2_; have GE109 := n3_; clear n0_ n1_ n2_ n3_ hb hbox hg) | ((with_reducible refine gate_dst (N := 3) rfl ?_); refine box_event ?hg (N := 3) ?hd (cs := #[.int .u64 a1_0, .int .u64 a1_1]) (t := 24) ?hr ?_; (case hd => rfl); (case hg => rfl); (case hr => first | (go_simp; done) | (go_simp; rfl)); intro gb110 hg w4 hbox hb; have n0_ := Aside0.mk (blk_below (bT BK109.out) hb); have n1_ := Aside0.mk (below_step (bW HB.out) hb); have n2_ := Aside0.mk (hbox); have n3_ := Aside0.mk ((by rw [hg]; exact (below_size (bW HB.out)) : w.heap.size ≤ gb110)); have n4_ := Aside0.mk ((by rw [hg]; exact (below_size (bW HB.out)) : w.heap.size ≤ gb110)); have n5_ := Aside0.mk ((by rw [hg]; exact Nat.ne_of_lt (blk_lt (bT BK109.out)) : gb109 ≠ gb110)); have n6_ := Aside0.mk ((by rw [hg]; exact Nat.ne_of_gt (blk_lt (bT BK109.out)) : gb110 ≠ gb109)); clear BK109 HB; have BK109 := n0_; have HB := n1_; have BK110 := n2_; have GW110 := n3_; have GE110 := n4_; have NB109_110 := n5_; have NB110_109 := n6_; clear n0_ n1_ n2_ n3_ n4_ n5_ n6_ hb hbox hg) | ((with_reducible refine gate_dst (N := 4) rfl ?_); refine box_event ?hg (N := 4) ?hd (cs := #[.int .u64 0, .int .u64 0]) (t := 24) ?hr ?_; (case hd => rfl); (case hg => rfl); (case hr => first | (go_simp; done) | (go_simp; rfl)); intro gb111 hg w5 hbox hb; have n0_ := Aside0.mk (blk_below (bT BK109.out) hb); have n1_ := Aside0.mk (blk_below (bT BK110.out) hb); have n2_ := Aside0.mk (below_step (bW HB.out) hb); have n3_ := Aside0.mk (hbox); have n4_ := Aside0.mk ((by rw [hg]; exact (below_size (bW HB.out)) : w.heap.size ≤ gb111)); have n5_ := Aside0.mk ((by rw [hg]; exact (below_size (bW HB.out)) : w.heap.size ≤ gb111)); have n6_ := Aside0.mk ((by rw [hg]; exact Nat.ne_of_lt (blk_lt (bT BK109.out)) : gb109 ≠ gb111)); have n7_ := Aside0.mk ((by rw [hg]; exact Nat.ne_of_gt (blk_lt (bT BK109.out)) : gb111 ≠ gb109)); have n8_ := Aside0.mk ((by rw [hg]; exact Nat.ne_of_lt (blk_lt (bT BK110.out)) : gb110 ≠ gb111)); have n9_ := Aside0.mk ((by rw [hg]; exact Nat.ne_of_gt (blk_lt (bT BK110.out)) : gb111 ≠ gb110)); clear BK109 BK110 HB; have BK109 := n0_; have BK110 := n1_; have HB := n2_; have BK111 := n3_; have GW111 := n4_; have GE111 := n5_; have NB109_111 := n6_; have NB111_109 := n7_; have NB110_111 := n8_; have NB111_110 := n9_; clear n0_ n1_ n2_ n3_ n4_ n5_ n6_ n7_ n8_ n9_ hb hbox hg) | ((with_reducible refine gate_dst (N := 5) rfl ?_); refine box_event ?hg (N := 5) ?hd (cs := #[.int .u64 0, .int .u64 0]) (t := 24) ?hr ?_; (case hd => rfl); (case hg => rfl); (case hr => first | (go_simp; done) | (go_simp; rfl)); intro gb112 hg w6 hbox hb; have n0_ := Aside0.mk (blk_below (bT BK109.out) hb); have n1_ := Aside0.mk (blk_below (bT BK110.out) hb); have n2_ := Aside0.mk (blk_below (bT BK111.out) hb); have n3_ := Aside0.mk (below_step (bW HB.out) hb); have n4_ := Aside0.mk (hbox); have n5_ := Aside0.mk ((by rw [hg]; exact (below_size (bW HB.out)) : w.heap.size ≤ gb112)); have n6_ := Aside0.mk ((by rw [hg]; exact (below_size (bW HB.out)) : w.heap.size ≤ gb112)); have n7_ := Aside0.mk ((by rw [hg]; exact Nat.ne_of_lt (blk_lt (bT BK109.out)) : gb109 ≠ gb112)); have n8_ := Aside0.mk ((by rw [hg]; exact Nat.ne_of_gt (blk_lt (bT BK109.out)) : gb112 ≠ gb109)); have n9_ := Aside0.mk ((by rw [hg]; exact Nat.ne_of_lt (blk_lt (bT BK110.out)) : gb110 ≠ gb112)); have n10_ := Aside0.mk ((by rw [hg]; exact Nat.ne_of_gt (blk_lt (bT BK110.out)) : gb112 ≠ gb110)); have n11_ := Aside0.mk ((by rw [hg]; exact Nat.ne_of_lt (blk_lt (bT BK111.out)) : gb111 ≠ gb112)); have n12_ := Aside0.mk ((by rw [hg]; exact Nat.ne_of_gt (blk_lt (bT BK111.out)) : gb112 ≠ gb111)); clear BK109 BK110 BK111 HB; have BK109 := n0_; have BK110 := n1_; have BK111 := n2_; have HB := n3_; have BK112 := n4_; have GW112 := n5_; have GE112 := n6_; have NB109_112 := n7_; have NB112_109 := n8_; have NB110_112 := n9_; have NB112_110 := n10_; have NB111_112 := n11_; have NB112_111 := n12_; clear n0_ n1_ n2_ n3_ n4_ n5_ n6_ n7_ n8_ n9_ n10_ n11_ n12_ hb hbox hg) | ((with_reducible refine gate_dst (N := 6) rfl ?_); refine box_event ?hg (N := 6) ?hd (cs := #[.int .u64 0, .int .u64 0]) (t := 24) ?hr ?_; (case hd => rfl); (case hg => rfl); (case hr => first | (go_simp; done) | (go_simp; rfl)); intro gb113 hg w7 hbox hb; have n0_ := Aside0.mk (blk_below (bT BK109.out) hb); have n1_ := Aside0.mk (blk_below (bT BK110.out) hb); have n2_ := Aside0.mk (blk_below (bT BK111.out) hb); have n3_ := Aside0.mk (blk_below (bT BK112.out) hb); have n4_ := Aside0.mk (below_step (bW HB.out) hb); have n5_ := Aside0.mk (hbox); have n6_ := Aside0.mk ((by rw [hg]; exact (below_size (bW HB.out)) : w.heap.size ≤ gb113)); have n7_ := Aside0.mk ((by rw [hg]; exact (below_size (bW HB.out)) : w.heap.size ≤ gb113)); have n8_ := Aside0.mk ((by rw [hg]; exact Nat.ne_of_lt (blk_lt (bT BK109.out)) : gb109 ≠ gb113)); have n9_ := Aside0.mk ((by rw [hg]; exact Nat.ne_of_gt (blk_lt (bT BK109.out)) : gb113 ≠ gb109)); have n10_ := Aside0.mk ((by rw [hg]; exact Nat.ne_of_lt (blk_lt (bT BK110.out)) : gb110 ≠ gb113)); have n11_ := Aside0.mk ((by rw [hg]; exact Nat.ne_of_gt (blk_lt (bT BK110.out)) : gb113 ≠ gb110)); have n12_ := Aside0.mk ((by rw [hg]; exact Nat.ne_of_lt (blk_lt (bT BK111.out)) : gb111 ≠ gb113)); have n13_ := Aside0.mk ((by rw [hg]; exact Nat.ne_of_gt (blk_lt (bT BK111.out)) : gb113 ≠ gb111)); have n14_ := Aside0.mk ((by rw [hg]; exact Nat.ne_of_lt (blk_lt (bT BK112.out)) : gb112 ≠ gb113)); have n15_ := Aside0.mk ((by rw [hg]; exact Nat.ne_of_gt (blk_lt (bT BK112.out)) : gb113 ≠ gb112)); clear BK109 BK110 BK111 BK112 HB; have BK109 := n0_; have BK110 := n1_; have BK111 := n2_; have BK112 := n3_; have HB := n4_; have BK113 := n5_; have GW113 := n6_; have GE113 := n7_; have NB109_113 := n8_; have NB113_109 := n9_; have NB110_113 := n10_; have NB113_110 := n11_; have NB111_113 := n12_; have NB113_111 := n13_; have NB112_113 := n14_; have NB113_112 := n15_; clear n0_ n1_ n2_ n3_ n4_ n5_ n6_ n7_ n8_ n9_ n10_ n11_ n12_ n13_ n14_ n15_ hb hbox hg) | ((with_reducible refine gate_dst (N := 7) rfl ?_); refine box_event ?hg (N := 7) ?hd (cs := #[.int .u64 0, .int .u64 0]) (t := 24) ?hr ?_; (case hd => rfl); (case hg => rfl); (case hr => first | (go_simp; done) | (go_simp; rfl)); intro gb114 hg w8 hbox hb; have n0_ := Aside0.mk (blk_below (bT BK109.out) hb); have n1_ := Aside0.mk (blk_below (bT BK110.out) hb); have n2_ := Aside0.mk (blk_below (bT BK111.out) hb); have n3_ := Aside0.mk (blk_below (bT BK112.out) hb); have n4_ := Aside0.mk (blk_below (bT BK113.out) hb); have n5_ := Aside0.mk (below_step (bW HB.out) hb); have n6_ := Aside0.mk (hbox); have n7_ := Aside0.mk ((by rw [hg]; exact (below_size (bW HB.out)) : w.heap.size ≤ gb114)); have n8_ := Aside0.mk ((by rw [hg]; exact (below_size (bW HB.out)) : w.heap.size ≤ gb114)); have n9_ := Aside0.mk ((by rw [hg]; exact Nat.ne_of_lt (blk_lt (bT BK109.out)) : gb109 ≠ gb114)); have n10_ := Aside0.mk ((by rw [hg]; exact Nat.ne_of_gt (blk_lt (bT BK109.out)) : gb114 ≠ gb109)); have n11_ := Aside0.mk ((by rw [hg]; exact Nat.ne_of_lt (blk_lt (bT BK110.out)) : gb110 ≠ gb114)); have n12_ := Aside0.mk ((by rw [hg]; exact Nat.ne_of_gt (blk_lt (bT BK110.out)) : gb114 ≠ gb110)); have n13_ := Aside0.mk ((by rw [hg]; exact Nat.ne_of_lt (blk_lt (bT BK111.out)) : gb111 ≠ gb114)); have n14_ := Aside0.mk ((by rw [hg]; exact Nat.ne_of_gt (blk_lt (bT BK111.out)) : gb114 ≠ gb111)); have n15_ := Aside0.mk ((by rw [hg]; exact Nat.ne_of_lt (blk_lt (bT BK112.out)) : gb112 ≠ gb114)); have n16_ := Aside0.mk ((by rw [hg]; exact Nat.ne_of_gt (blk_lt (bT BK112.out)) : gb114 ≠ gb112)); have n17_ := Aside0.mk ((by rw [hg]; exact Nat.ne_of_lt (blk_lt (bT BK113.out)) : gb113 ≠ gb114)); have n18_ := Aside0.mk ((by rw [hg]; exact Nat.ne_of_gt (blk_lt (bT BK113.out)) : gb114 ≠ gb113)); clear BK109 BK110 BK111 BK112 BK113 HB; have BK109 := n0_; have BK110 := n1_; have BK111 := n2_; have BK112 := n3_; have BK113 := n4_; have HB := n5_; have BK114 := n6_; have GW114 := n7_; have GE114 := n8_; have NB109_114 := n9_; have NB114_109 := n10_; have NB110_114 := n11_; have NB114_110 := n12_; have NB111_114 := n13_; have NB114_111 := n14_; have NB112_114 := n15_; have NB114_112 := n16_; have NB113_114 := n17_; have NB114_113 := n18_; clear n0_ n1_ n2_ n3_ n4_ n5_ n6_ n7_ n8_ n9_ n10_ n11_ n12_ n13_ n14_ n15_ n16_ n17_ n18_ hb hbox hg))
 go_loopg [8] k (fun kq v8 w' => ∃ (x8_1 : Int) (x114000_1 : Int) (x114001_1 : Int) (x115000_1 : Int) (x115001_1 : Int), v8 = .int .i64 x8_1 ∧ Aside0 (wide_long.l0 kq x8_1 a0_0 a0_1 a1_0 a1_1 x114000_1 x114001_1 x115000_1 x115001_1 = some (r1, r2, r3, r4)) ∧ Aside0 (kq ≤ k) ∧ Aside0 (w'.heap[gb109]? = some (.cells #[.int .u64 a0_0, .int .u64 a0_1] 24 (0, 0))) ∧ Aside0 (w'.heap[gb110]? = some (.cells #[.int .u64 a1_0, .int .u64 a1_1] 24 (0, 0))) ∧ Aside0 (w'.heap[gb111]? = some (.cells #[.int .u64 0, .int .u64 0] 24 (0, 0))) ∧ Aside0 (w'.heap[gb112]? = some (.cells #[.int .u64 0, .int .u64 0] 24 (0, 0))) ∧ Aside0 (w'.heap[gb113]? = some (.cells #[.int .u64 x114000_1, .int .u64 x114001_1] 24 (0, 0))) ∧ Aside0 (w'.heap[gb114]? = some (.cells #[.int .u64 x115000_1, .int .u64 x115001_1] 24 (0, 0))) ∧ Aside0 (Below w.heap.size w w'))
 case atStart => exact ⟨(127), (0), (0), (0), (0), (by first | rfl | (simp; done) | (simp [*]; done)), H', ⟨Nat.le_refl _⟩, ⟨by (with_reducible repeat (first | refine blk_drewN ?_ _ | refine blk_drew ?_ | refine blk_alloc ?_ _)); exact BK109.out⟩, ⟨by (with_reducible repeat (first | refine blk_drewN ?_ _ | refine blk_drew ?_ | refine blk_alloc ?_ _)); exact BK110.out⟩, ⟨by (with_reducible repeat (first | refine blk_drewN ?_ _ | refine blk_drew ?_ | refine blk_alloc ?_ _)); exact BK111.out⟩, ⟨by (with_reducible repeat (first | refine blk_drewN ?_ _ | refine blk_drew ?_ | refine blk_alloc ?_ _)); exact BK112.out⟩, ⟨by (with_reducible repeat (first | refine blk_drewN ?_ _ | refine blk_drew ?_ | refine blk_alloc ?_ _)); exact BK113.out⟩, ⟨by (with_reducible repeat (first | refine blk_drewN ?_ _ | refine blk_drew ?_ | refine blk_alloc ?_ _)); exact BK114.out⟩, ⟨by repeat (first | (with_reducible first | exact HB.out | apply below_alloc | apply pw_below_drewN | apply below_drew1 | refine below_set ?_ GE109.out | refine below_set ?_ GE110.out | refine below_set ?_ GE111.out | refine below_set ?_ GE112.out | refine below_set ?_ GE113.out | refine below_set ?_ GE114.out) | exact HB.out)⟩⟩
 case round =>
  clear H'
  try clear p2
  try clear c3
  obtain ⟨x8_1, x114000_1, x114001_1, x115000_1, x115001_1, rfl, HA, HK1, BK109, BK110, BK111, BK112, BK113, BK114, HB⟩ := hrel
  cases gk with
  | zero => exact absurd HA.out (by simp [wide_long.l0])
  | succ k1 =>
   have H := HA.out
   clear HA
   simp only [wide_long.l0] at H
   by_cases c9 : x8_1 ≥ 0
   ·
    rw [if_pos c9] at H
    have c9b0 : decide (0 ≤ x8_1) = true := decide_eq_true c9
    clear c9
    by_cases c10 : 0 ≤ x8_1
    ·
     rw [if_pos c10] at H
     have c10b0 := eq_true c10
     have c10b1 : decide (0 ≤ x8_1) = true := decide_eq_true c10
     clear c10
     obtain ⟨ji11, hji11⟩ : ∃ j_ : Int, (shr .u64 a0_1 x8_1) = j_ := ⟨_, rfl⟩
     replace H : (if x8_1 ≥ 64 then (if 0 ≤ (wrap64 (x8_1 - 64)) then (wide_long.j1 k1 x8_1 (Go.bits .and .u64 (shr .u64 a0_0 (wrap64 (x8_1 - 64))) 1) a0_0 a0_1 a1_0 a1_1 x114000_1 x114001_1 x115000_1 x115001_1) else (none)) else (wide_long.j1 k1 x8_1 (Go.bits .and .u64 (ji11) 1) a0_0 a0_1 a1_0 a1_1 x114000_1 x114001_1 x115000_1 x115001_1)) = some (r1, r2, r3, r4) := by first | (rw [hji11] at H; exact H) | (simp only [hji11] at H ⊢; exact H)
     have hji11_ : (a0_1 / 2 ^ min x8_1.toNat 64) = ji11 := hji11
     have hji11z : x8_1 ≤ 64 → (a0_1 / 2 ^ x8_1.toNat) = ji11 := shr_small hji11
     have HC12 := Aside0.mk H
     clear H
     have hnb13 := NB109_110.out
     have hnc13 := NB110_109.out
     have hnb14 := NB109_111.out
     have hnc14 := NB111_109.out
     have hnb15 := NB109_112.out
     have hnc15 := NB112_109.out
     have hnb16 := NB109_113.out
     have hnc16 := NB113_109.out
     have hnb17 := NB109_114.out
     have hnc17 := NB114_109.out
     have hcz18_0 : wr.cell? ⟨gb109, 0, none⟩ = some (.int .u64 a0_0) := (blk_cell BK109.out 0).trans rfl
     have hcz18_1 : wr.cell? ⟨gb109, 1, none⟩ = some (.int .u64 a0_1) := (blk_cell BK109.out 1).trans rfl
     have hfz18_0 := blk_frozen BK109.out 0
     have hfz18_1 := blk_frozen BK109.out 1
     go_upto_if 25 with (fail)
     go_cut [9] (fun v9 wc => ∃ (kq : Nat) (x9_11 : Int), v9 = .int .u64 x9_11 ∧ Aside0 (wide_long.j1 kq x8_1 x9_11 a0_0 a0_1 a1_0 a1_1 x114000_1 x114001_1 x115000_1 x115001_1 = some (r1, r2, r3, r4)) ∧ Aside0 (kq ≤ k1) ∧ Aside0 (wc.heap[gb109]? = some (.cells #[.int .u64 a0_0, .int .u64 a0_1] 24 (0, 0))) ∧ Aside0 (wc.heap[gb110]? = some (.cells #[.int .u64 a1_0, .int .u64 a1_1] 24 (0, 0))) ∧ Aside0 (wc.heap[gb111]? = some (.cells #[.int .u64 0, .int .u64 0] 24 (0, 0))) ∧ Aside0 (wc.heap[gb112]? = some (.cells #[.int .u64 0, .int .u64 0] 24 (0, 0))) ∧ Aside0 (wc.heap[gb113]? = some (.cells #[.int .u64 x114000_1, .int .u64 x114001_1] 24 (0, 0))) ∧ Aside0 (wc.heap[gb114]? = some (.cells #[.int .u64 x115000_1, .int .u64 x115001_1] 24 (0, 0))) ∧ Aside0 (Below w.heap.size w wc))
     case first =>
      have H := HC12.out
      clear HC12
      by_cases c19 : x8_1 ≥ 64
      ·
       rw [if_pos c19] at H
       have c19b0 : decide (64 ≤ x8_1) = true := decide_eq_true c19
       clear c19
       (first | rw [c19b0] | (simp only [i64_w, i32_w]; rw [c19b0]) | skip)
       obtain ⟨ji20, hji20⟩ : ∃ j_ : Int, (wrap64 (x8_1 - 64)) = j_ := ⟨_, rfl⟩
       replace H : (if 0 ≤ (ji20) then (wide_long.j1 k1 x8_1 (Go.bits .and .u64 (shr .u64 a0_0 (ji20)) 1) a0_0 a0_1 a1_0 a1_1 x114000_1 x114001_1 x115000_1 x115001_1) else (none)) = some (r1, r2, r3, r4) := by first | (rw [hji20] at H; exact H) | (simp only [hji20] at H ⊢; exact H)
       have hji20w : (IntKind.i64.wrap (x8_1 - 64)) = ji20 := (i64_w _).trans hji20
       by_cases c21 : 0 ≤ (ji20)
       ·
        rw [if_pos c21] at H
        have c21b0 := eq_true c21
        have c21b1 : decide (0 ≤ (ji20)) = true := decide_eq_true c21
        clear c21
        obtain ⟨ji22, hji22⟩ : ∃ j_ : Int, (shr .u64 a0_0 (ji20)) = j_ := ⟨_, rfl⟩
        replace H : (wide_long.j1 k1 x8_1 (Go.bits .and .u64 (ji22) 1) a0_0 a0_1 a1_0 a1_1 x114000_1 x114001_1 x115000_1 x115001_1) = some (r1, r2, r3, r4) := by first | (rw [hji22] at H; exact H) | (simp only [hji22] at H ⊢; exact H)
        have hji22_ : (a0_0 / 2 ^ min (ji20).toNat 64) = ji22 := hji22
        have hji22z : (ji20) ≤ 64 → (a0_0 / 2 ^ (ji20).toNat) = ji22 := shr_small hji22
        have H' := Aside0.mk H
        clear H
        have hnb23 := NB109_110.out
        have hnc23 := NB110_109.out
        have hnb24 := NB109_111.out
        have hnc24 := NB111_109.out
        have hnb25 := NB109_112.out
        have hnc25 := NB112_109.out
        have hnb26 := NB109_113.out
        have hnc26 := NB113_109.out
        have hnb27 := NB109_114.out
        have hnc27 := NB114_109.out
        have hcz28_0 : wr.cell? ⟨gb109, 0, none⟩ = some (.int .u64 a0_0) := (blk_cell BK109.out 0).trans rfl
        have hcz28_1 : wr.cell? ⟨gb109, 1, none⟩ = some (.int .u64 a0_1) := (blk_cell BK109.out 1).trans rfl
        have hfz28_0 := blk_frozen BK109.out 0
        have hfz28_1 := blk_frozen BK109.out 1
        go_wp2
        go_meet
        case rel => exact ⟨_, (Go.bits .and .u64 (ji22) 1), (by first | rfl | (simp; done) | (simp only [← hji22] <;> (first | rfl | simp)) | (simp [*]; done)), H', ⟨by have := HK1.out; first | omega | exact Nat.le_refl _⟩, ⟨by (with_reducible repeat (first | refine blk_drewN ?_ _ | refine blk_drew ?_ | refine blk_alloc ?_ _)); exact BK109.out⟩, ⟨by (with_reducible repeat (first | refine blk_drewN ?_ _ | refine blk_drew ?_ | refine blk_alloc ?_ _)); exact BK110.out⟩, ⟨by (with_reducible repeat (first | refine blk_drewN ?_ _ | refine blk_drew ?_ | refine blk_alloc ?_ _)); exact BK111.out⟩, ⟨by (with_reducible repeat (first | refine blk_drewN ?_ _ | refine blk_drew ?_ | refine blk_alloc ?_ _)); exact BK112.out⟩, ⟨by (with_reducible repeat (first | refine blk_drewN ?_ _ | refine blk_drew ?_ | refine blk_alloc ?_ _)); exact BK113.out⟩, ⟨by (with_reducible repeat (first | refine blk_drewN ?_ _ | refine blk_drew ?_ | refine blk_alloc ?_ _)); exact BK114.out⟩, ⟨by repeat (first | (with_reducible first | exact HB.out | apply below_alloc | apply pw_below_drewN | apply below_drew1 | refine below_set ?_ GE109.out | refine below_set ?_ GE110.out | refine below_set ?_ GE111.out | refine below_set ?_ GE112.out | refine below_set ?_ GE113.out | refine below_set ?_ GE114.out) | exact HB.out)⟩⟩
       ·
        rw [if_neg c21] at H
        exact absurd H (by simp)
      ·
       rw [if_neg c19] at H
       have c19b0 : decide (64 ≤ x8_1) = false := decide_eq_false c19
       clear c19
       (first | rw [c19b0] | (simp only [i64_w, i32_w]; rw [c19b0]) | skip)
       have H' := Aside0.mk H
       clear H
       go_wp2
       go_meet
       case rel => exact ⟨_, (Go.bits .and .u64 (ji11) 1), (by first | rfl | (simp; done) | (simp only [← hji11] <;> (first | rfl | simp)) | (simp [*]; done)), H', ⟨by have := HK1.out; first | omega | exact Nat.le_refl _⟩, ⟨by (with_reducible repeat (first | refine blk_drewN ?_ _ | refine blk_drew ?_ | refine blk_alloc ?_ _)); exact BK109.out⟩, ⟨by (with_reducible repeat (first | refine blk_drewN ?_ _ | refine blk_drew ?_ | refine blk_alloc ?_ _)); exact BK110.out⟩, ⟨by (with_reducible repeat (first | refine blk_drewN ?_ _ | refine blk_drew ?_ | refine blk_alloc ?_ _)); exact BK111.out⟩, ⟨by (with_reducible repeat (first | refine blk_drewN ?_ _ | refine blk_drew ?_ | refine blk_alloc ?_ _)); exact BK112.out⟩, ⟨by (with_reducible repeat (first | refine blk_drewN ?_ _ | refine blk_drew ?_ | refine blk_alloc ?_ _)); exact BK113.out⟩, ⟨by (with_reducible repeat (first | refine blk_drewN ?_ _ | refine blk_drew ?_ | refine blk_alloc ?_ _)); exact BK114.out⟩, ⟨by repeat (first | (with_reducible first | exact HB.out | apply below_alloc | apply pw_below_drewN | apply below_drew1 | refine below_set ?_ GE109.out | refine below_set ?_ GE110.out | refine below_set ?_ GE111.out | refine below_set ?_ GE112.out | refine below_set ?_ GE113.out | refine below_set ?_ GE114.out) | exact HB.out)⟩⟩
     case rest =>
      clear HC12
      try clear c1
      try clear c2
      try clear p2
      try clear c3
      try clear p6
      try clear c9
      try clear c9b0
      try clear c10
      try clear c10b0
      try clear c10b1
      try clear c13
      try clear c14
      try clear c15
      try clear c16
      try clear c17
      try clear c19
      try clear c19b0
      try clear c21
      try clear c21b0
      try clear c21b1
      try clear c23
      try clear c24
      try clear c25
      try clear c26
      try clear c27
      try clear hcz18_0
      try clear hcz18_1
      try clear hcz28_0
      try clear hcz28_1
      try clear hfz18_0
      try clear hfz18_1
      try clear hfz28_0
      try clear hfz28_1
      try clear p2
      obtain ⟨kq, x9_11, rfl, HA, HJ11, BK109, BK110, BK111, BK112, BK113, BK114, HB⟩ := hcut
      cases kq with
      | zero => exact absurd HA.out (by simp [wide_long.j1])
      | succ kj11 =>
       have H := HA.out
       clear HA
       simp only [wide_long.j1] at H
       replace H := Option.bind_eq_some_iff.mp H
       obtain ⟨⟨t115, t116, t117⟩, A290, H⟩ := H
       replace H : ((wide_double.f x114000_1 x114001_1 0).bind fun bt118 => (if t117 = true then (wide_long.j2 kj11 x8_1 true a0_0 a0_1 a1_0 a1_1 bt118.1 bt118.2.1 t115 t116) else ((wide_Cmp.f t115 t116 a1_0 a1_1).bind fun t121 => (wide_long.j2 kj11 x8_1 (decide (t121 ≥ 0)) a0_0 a0_1 a1_0 a1_1 bt118.1 bt118.2.1 t115 t116)))) = some (r1, r2, r3, r4) := H
       have A29 := Aside0.mk A290
       clear A290
       replace H := Option.bind_eq_some_iff.mp H
       obtain ⟨⟨t118, t119, t120⟩, A300, H⟩ := H
       replace H : (if t117 = true then (wide_long.j2 kj11 x8_1 true a0_0 a0_1 a1_0 a1_1 t118 t119 t115 t116) else ((wide_Cmp.f t115 t116 a1_0 a1_1).bind fun t121 => (wide_long.j2 kj11 x8_1 (decide (t121 ≥ 0)) a0_0 a0_1 a1_0 a1_1 t118 t119 t115 t116))) = some (r1, r2, r3, r4) := H
       have A30 := Aside0.mk A300
       clear A300
       have HC31 := Aside0.mk H
       clear H
       have hnb32 := NB114_109.out
       have hnc32 := NB109_114.out
       have hnb33 := NB114_110.out
       have hnc33 := NB110_114.out
       have hnb34 := NB114_111.out
       have hnc34 := NB111_114.out
       have hnb35 := NB114_112.out
       have hnc35 := NB112_114.out
       have hnb36 := NB114_113.out
       have hnc36 := NB113_114.out
       have hcz37_0 : wc.cell? ⟨gb114, 0, none⟩ = some (.int .u64 x115000_1) := (blk_cell BK114.out 0).trans rfl
       have hcz37_1 : wc.cell? ⟨gb114, 1, none⟩ = some (.int .u64 x115001_1) := (blk_cell BK114.out 1).trans rfl
       have hfz37_0 := blk_frozen BK114.out 0
       have hfz37_1 := blk_frozen BK114.out 1
       go_upto_region 11 with (first | ((with_reducible refine gate_callee (f := 39) rfl ?_); refine goesL_ (some 35) rfl rfl Try.func39 (by kernel_rfl) rfl #[.agg #[.int .u64 x115000_1, .int .u64 x115001_1], .int .u64 x9_11] rfl (by (try simp only [List.map_toArray, List.map_cons, List.map_nil]); first | done | rfl | (simp only [List.length_drop, List.length_take]; rfl)) ?_; (with_reducible refine (wide_double.calls x115000_1 x115001_1 x9_11 t115 t116 t117 _ A29.out).mono ?_); rintro e w38 ⟨rfl, hb⟩; refine ⟨_, rfl, ?_⟩; have n0_ := Aside0.mk (blk_below (bT BK109.out) hb); have n1_ := Aside0.mk (blk_below (bT BK110.out) hb); have n2_ := Aside0.mk (blk_below (bT BK111.out) hb); have n3_ := Aside0.mk (blk_below (bT BK112.out) hb); have n4_ := Aside0.mk (blk_below (bT BK113.out) hb); have n5_ := Aside0.mk (blk_below (bT BK114.out) hb); have n6_ := Aside0.mk (below_step (bW HB.out) hb); clear BK109 BK110 BK111 BK112 BK113 BK114 HB; have BK109 := n0_; have BK110 := n1_; have BK111 := n2_; have BK112 := n3_; have BK113 := n4_; have BK114 := n5_; have HB := n6_; clear n0_ n1_ n2_ n3_ n4_ n5_ n6_; (try clear hb); (try clear hb2); (try clear hk); (try clear hi); have hcz39_0 : w38.cell? ⟨gb114, 0, none⟩ = some (.int .u64 x115000_1) := (blk_cell BK114.out 0).trans rfl; have hcz39_1 : w38.cell? ⟨gb114, 1, none⟩ = some (.int .u64 x115001_1) := (blk_cell BK114.out 1).trans rfl; have hfz39_0 := blk_frozen BK114.out 0; have hfz39_1 := blk_frozen BK114.out 1; have hnb40 := NB113_109.out; have hnc40 := NB109_113.out; have hnb41 := NB113_110.out; have hnc41 := NB110_113.out; have hnb42 := NB113_111.out; have hnc42 := NB111_113.out; have hnb43 := NB113_112.out; have hnc43 := NB112_113.out; have hcz44_0 : w38.cell? ⟨gb113, 0, none⟩ = some (.int .u64 x114000_1) := (blk_cell BK113.out 0).trans rfl; have hcz44_1 : w38.cell? ⟨gb113, 1, none⟩ = some (.int .u64 x114001_1) := (blk_cell BK113.out 1).trans rfl; have hfz44_0 := blk_frozen BK113.out 0; have hfz44_1 := blk_frozen BK113.out 1) | ((with_reducible refine gate_callee (f := 39) rfl ?_); refine goesL_ (some 40) rfl rfl Try.func39 (by kernel_rfl) rfl #[.agg #[.int .u64 x114000_1, .int .u64 x114001_1], .int .u64 0] rfl (by (try simp only [List.map_toArray, List.map_cons, List.map_nil]); first | done | rfl | (simp only [List.length_drop, List.length_take]; rfl)) ?_; (with_reducible refine (wide_double.calls x114000_1 x114001_1 0 t118 t119 t120 _ A30.out).mono ?_); rintro e w45 ⟨rfl, hb⟩; refine ⟨_, rfl, ?_⟩; have n0_ := Aside0.mk (blk_below (g := gb109) (o := .cells #[.int .u64 a0_0, .int .u64 a0_1] 24 (0, 0)) (by (with_reducible repeat (first | refine blk_drewN ?_ _ | refine blk_drew ?_ | refine blk_alloc ?_ _)); refine blk_far ?_ NB109_114.out _; (with_reducible repeat (first | refine blk_drewN ?_ _ | refine blk_drew ?_ | refine blk_alloc ?_ _)); refine blk_far ?_ NB109_114.out _; (with_reducible repeat (first | refine blk_drewN ?_ _ | refine blk_drew ?_ | refine blk_alloc ?_ _)); exact BK109.out) hb); have n1_ := Aside0.mk (blk_below (g := gb110) (o := .cells #[.int .u64 a1_0, .int .u64 a1_1] 24 (0, 0)) (by (with_reducible repeat (first | refine blk_drewN ?_ _ | refine blk_drew ?_ | refine blk_alloc ?_ _)); refine blk_far ?_ NB110_114.out _; (with_reducible repeat (first | refine blk_drewN ?_ _ | refine blk_drew ?_ | refine blk_alloc ?_ _)); refine blk_far ?_ NB110_114.out _; (with_reducible repeat (first | refine blk_drewN ?_ _ | refine blk_drew ?_ | refine blk_alloc ?_ _)); exact BK110.out) hb); have n2_ := Aside0.mk (blk_below (g := gb111) (o := .cells #[.int .u64 0, .int .u64 0] 24 (0, 0)) (by (with_reducible repeat (first | refine blk_drewN ?_ _ | refine blk_drew ?_ | refine blk_alloc ?_ _)); refine blk_far ?_ NB111_114.out _; (with_reducible repeat (first | refine blk_drewN ?_ _ | refine blk_drew ?_ | refine blk_alloc ?_ _)); refine blk_far ?_ NB111_114.out _; (with_reducible repeat (first | refine blk_drewN ?_ _ | refine blk_drew ?_ | refine blk_alloc ?_ _)); exact BK111.out) hb); have n3_ := Aside0.mk (blk_below (g := gb112) (o := .cells #[.int .u64 0, .int .u64 0] 24 (0, 0)) (by (with_reducible repeat (first | refine blk_drewN ?_ _ | refine blk_drew ?_ | refine blk_alloc ?_ _)); refine blk_far ?_ NB112_114.out _; (with_reducible repeat (first | refine blk_drewN ?_ _ | refine blk_drew ?_ | refine blk_alloc ?_ _)); refine blk_far ?_ NB112_114.out _; (with_reducible repeat (first | refine blk_drewN ?_ _ | refine blk_drew ?_ | refine blk_alloc ?_ _)); exact BK112.out) hb); have n4_ := Aside0.mk (blk_below (g := gb113) (o := .cells #[.int .u64 x114000_1, .int .u64 x114001_1] 24 (0, 0)) (by (with_reducible repeat (first | refine blk_drewN ?_ _ | refine blk_drew ?_ | refine blk_alloc ?_ _)); refine blk_far ?_ NB113_114.out _; (with_reducible repeat (first | refine blk_drewN ?_ _ | refine blk_drew ?_ | refine blk_alloc ?_ _)); refine blk_far ?_ NB113_114.out _; (with_reducible repeat (first | refine blk_drewN ?_ _ | refine blk_drew ?_ | refine blk_alloc ?_ _)); exact BK113.out) hb); have n5_ := Aside0.mk (blk_below (g := gb114) (o := .cells #[.int .u64 t115, .int .u64 t116] 24 (0, 0)) (by (with_reducible repeat (first | refine blk_drewN ?_ _ | refine blk_drew ?_ | refine blk_alloc ?_ _)); refine blk_put (cs := #[.int .u64 t115, .int .u64 x115001_1]) ?_ 1 _ rfl; (with_reducible repeat (first | refine blk_drewN ?_ _ | refine blk_drew ?_ | refine blk_alloc ?_ _)); refine blk_put (cs := #[.int .u64 x115000_1, .int .u64 x115001_1]) ?_ 0 _ rfl; (with_reducible repeat (first | refine blk_drewN ?_ _ | refine blk_drew ?_ | refine blk_alloc ?_ _)); exact BK114.out) hb); have n6_ := Aside0.mk (below_step (bW HB.out) hb); clear BK109 BK110 BK111 BK112 BK113 BK114 HB; have BK109 := n0_; have BK110 := n1_; have BK111 := n2_; have BK112 := n3_; have BK113 := n4_; have BK114 := n5_; have HB := n6_; clear n0_ n1_ n2_ n3_ n4_ n5_ n6_; (try clear hb); (try clear hb2); (try clear hk); (try clear hi); have hcz46_0 : w45.cell? ⟨gb113, 0, none⟩ = some (.int .u64 x114000_1) := (blk_cell BK113.out 0).trans rfl; have hcz46_1 : w45.cell? ⟨gb113, 1, none⟩ = some (.int .u64 x114001_1) := (blk_cell BK113.out 1).trans rfl; have hfz46_0 := blk_frozen BK113.out 0; have hfz46_1 := blk_frozen BK113.out 1))
       (try simp only [Act.put, List.setIfInBounds_toArray, List.set_cons_zero, List.set_cons_succ])
       go_cut [49] (fun v49 wc => ∃ (kq : Nat) (x49_30 : Bool), v49 = .bool x49_30 ∧ Aside0 (wide_long.j2 kq x8_1 x49_30 a0_0 a0_1 a1_0 a1_1 t118 t119 t115 t116 = some (r1, r2, r3, r4)) ∧ Aside0 (kq ≤ kj11) ∧ Aside0 (wc.heap[gb109]? = some (.cells #[.int .u64 a0_0, .int .u64 a0_1] 24 (0, 0))) ∧ Aside0 (wc.heap[gb110]? = some (.cells #[.int .u64 a1_0, .int .u64 a1_1] 24 (0, 0))) ∧ Aside0 (wc.heap[gb111]? = some (.cells #[.int .u64 0, .int .u64 0] 24 (0, 0))) ∧ Aside0 (wc.heap[gb112]? = some (.cells #[.int .u64 0, .int .u64 0] 24 (0, 0))) ∧ Aside0 (wc.heap[gb113]? = some (.cells #[.int .u64 t118, .int .u64 t119] 24 (0, 0))) ∧ Aside0 (wc.heap[gb114]? = some (.cells #[.int .u64 t115, .int .u64 t116] 24 (0, 0))) ∧ Aside0 (Below w.heap.size w wc))
       case first =>
        have H := HC31.out
        clear HC31
        by_cases c47 : t117 = true
        ·
         subst c47
         have H1 : (wide_long.j2 kj11 x8_1 true a0_0 a0_1 a1_0 a1_1 t118 t119 t115 t116) = some (r1, r2, r3, r4) := by rw [if_pos rfl] at H; exact H
         clear H
         have H := H1
         clear H1
         have H' := Aside0.mk H
         clear H
         go_wp2
         go_meet
         case rel => exact ⟨_, (true), (by first | rfl | (simp; done) | (simp [*]; done)), H', ⟨by have := HK1.out; have := HJ11.out; first | omega | exact Nat.le_refl _⟩, ⟨by (with_reducible repeat (first | refine blk_drewN ?_ _ | refine blk_drew ?_ | refine blk_alloc ?_ _)); refine blk_far ?_ NB109_113.out _; (with_reducible repeat (first | refine blk_drewN ?_ _ | refine blk_drew ?_ | refine blk_alloc ?_ _)); refine blk_far ?_ NB109_113.out _; (with_reducible repeat (first | refine blk_drewN ?_ _ | refine blk_drew ?_ | refine blk_alloc ?_ _)); exact BK109.out⟩, ⟨by (with_reducible repeat (first | refine blk_drewN ?_ _ | refine blk_drew ?_ | refine blk_alloc ?_ _)); refine blk_far ?_ NB110_113.out _; (with_reducible repeat (first | refine blk_drewN ?_ _ | refine blk_drew ?_ | refine blk_alloc ?_ _)); refine blk_far ?_ NB110_113.out _; (with_reducible repeat (first | refine blk_drewN ?_ _ | refine blk_drew ?_ | refine blk_alloc ?_ _)); exact BK110.out⟩, ⟨by (with_reducible repeat (first | refine blk_drewN ?_ _ | refine blk_drew ?_ | refine blk_alloc ?_ _)); refine blk_far ?_ NB111_113.out _; (with_reducible repeat (first | refine blk_drewN ?_ _ | refine blk_drew ?_ | refine blk_alloc ?_ _)); refine blk_far ?_ NB111_113.out _; (with_reducible repeat (first | refine blk_drewN ?_ _ | refine blk_drew ?_ | refine blk_alloc ?_ _)); exact BK111.out⟩, ⟨by (with_reducible repeat (first | refine blk_drewN ?_ _ | refine blk_drew ?_ | refine blk_alloc ?_ _)); refine blk_far ?_ NB112_113.out _; (with_reducible repeat (first | refine blk_drewN ?_ _ | refine blk_drew ?_ | refine blk_alloc ?_ _)); refine blk_far ?_ NB112_113.out _; (with_reducible repeat (first | refine blk_drewN ?_ _ | refine blk_drew ?_ | refine blk_alloc ?_ _)); exact BK112.out⟩, ⟨by (with_reducible repeat (first | refine blk_drewN ?_ _ | refine blk_drew ?_ | refine blk_alloc ?_ _)); refine blk_put (cs := #[.int .u64 t118, .int .u64 x114001_1]) ?_ 1 _ rfl; (with_reducible repeat (first | refine blk_drewN ?_ _ | refine blk_drew ?_ | refine blk_alloc ?_ _)); refine blk_put (cs := #[.int .u64 x114000_1, .int .u64 x114001_1]) ?_ 0 _ rfl; (with_reducible repeat (first | refine blk_drewN ?_ _ | refine blk_drew ?_ | refine blk_alloc ?_ _)); exact BK113.out⟩, ⟨by (with_reducible repeat (first | refine blk_drewN ?_ _ | refine blk_drew ?_ | refine blk_alloc ?_ _)); refine blk_far ?_ NB114_113.out _; (with_reducible repeat (first | refine blk_drewN ?_ _ | refine blk_drew ?_ | refine blk_alloc ?_ _)); refine blk_far ?_ NB114_113.out _; (with_reducible repeat (first | refine blk_drewN ?_ _ | refine blk_drew ?_ | refine blk_alloc ?_ _)); exact BK114.out⟩, ⟨by repeat (first | (with_reducible first | exact HB.out | apply below_alloc | apply pw_below_drewN | apply below_drew1 | refine below_set ?_ GE109.out | refine below_set ?_ GE110.out | refine below_set ?_ GE111.out | refine below_set ?_ GE112.out | refine below_set ?_ GE113.out | refine below_set ?_ GE114.out) | exact HB.out)⟩⟩
        ·
         replace c47 := Bool.eq_false_iff.mpr c47
         subst c47
         have H1 : ((wide_Cmp.f t115 t116 a1_0 a1_1).bind fun t121 => (wide_long.j2 kj11 x8_1 (decide (t121 ≥ 0)) a0_0 a0_1 a1_0 a1_1 t118 t119 t115 t116)) = some (r1, r2, r3, r4) := by rw [if_neg (show ¬ (false = true) by decide)] at H; exact H
         clear H
         have H := H1
         clear H1
         replace H := Option.bind_eq_some_iff.mp H
         obtain ⟨t121, A480, H⟩ := H
         replace H : (wide_long.j2 kj11 x8_1 (decide (t121 ≥ 0)) a0_0 a0_1 a1_0 a1_1 t118 t119 t115 t116) = some (r1, r2, r3, r4) := H
         have A48 := Aside0.mk A480
         clear A480
         have H' := Aside0.mk H
         clear H
         have hnb49 := NB114_109.out
         have hnc49 := NB109_114.out
         have hnb50 := NB114_110.out
         have hnc50 := NB110_114.out
         have hnb51 := NB114_111.out
         have hnc51 := NB111_114.out
         have hnb52 := NB114_112.out
         have hnc52 := NB112_114.out
         have hnb53 := NB114_113.out
         have hnc53 := NB113_114.out
         have hcz54_0 : w45.cell? ⟨gb114, 0, none⟩ = some (.int .u64 t115) := (blk_cell BK114.out 0).trans rfl
         have hcz54_1 : w45.cell? ⟨gb114, 1, none⟩ = some (.int .u64 t116) := (blk_cell BK114.out 1).trans rfl
         have hfz54_0 := blk_frozen BK114.out 0
         have hfz54_1 := blk_frozen BK114.out 1
         have hnb55 := NB110_109.out
         have hnc55 := NB109_110.out
         have hnb56 := NB110_111.out
         have hnc56 := NB111_110.out
         have hnb57 := NB110_112.out
         have hnc57 := NB112_110.out
         have hnb58 := NB110_113.out
         have hnc58 := NB113_110.out
         have hcz59_0 : w45.cell? ⟨gb110, 0, none⟩ = some (.int .u64 a1_0) := (blk_cell BK110.out 0).trans rfl
         have hcz59_1 : w45.cell? ⟨gb110, 1, none⟩ = some (.int .u64 a1_1) := (blk_cell BK110.out 1).trans rfl
         have hfz59_0 := blk_frozen BK110.out 0
         have hfz59_1 := blk_frozen BK110.out 1
         go_wp2_with (first | (go_at_call 24; (with_reducible refine (wide_Cmp.calls t115 t116 a1_0 a1_1 t121 _ A48.out).mono ?_); rintro e w60 ⟨rfl, hb⟩; have n0_ := Aside0.mk (blk_below (g := gb109) (o := .cells #[.int .u64 a0_0, .int .u64 a0_1] 24 (0, 0)) (by (with_reducible repeat (first | refine blk_drewN ?_ _ | refine blk_drew ?_ | refine blk_alloc ?_ _)); refine blk_far ?_ NB109_113.out _; (with_reducible repeat (first | refine blk_drewN ?_ _ | refine blk_drew ?_ | refine blk_alloc ?_ _)); refine blk_far ?_ NB109_113.out _; (with_reducible repeat (first | refine blk_drewN ?_ _ | refine blk_drew ?_ | refine blk_alloc ?_ _)); exact BK109.out) hb); have n1_ := Aside0.mk (blk_below (g := gb110) (o := .cells #[.int .u64 a1_0, .int .u64 a1_1] 24 (0, 0)) (by (with_reducible repeat (first | refine blk_drewN ?_ _ | refine blk_drew ?_ | refine blk_alloc ?_ _)); refine blk_far ?_ NB110_113.out _; (with_reducible repeat (first | refine blk_drewN ?_ _ | refine blk_drew ?_ | refine blk_alloc ?_ _)); refine blk_far ?_ NB110_113.out _; (with_reducible repeat (first | refine blk_drewN ?_ _ | refine blk_drew ?_ | refine blk_alloc ?_ _)); exact BK110.out) hb); have n2_ := Aside0.mk (blk_below (g := gb111) (o := .cells #[.int .u64 0, .int .u64 0] 24 (0, 0)) (by (with_reducible repeat (first | refine blk_drewN ?_ _ | refine blk_drew ?_ | refine blk_alloc ?_ _)); refine blk_far ?_ NB111_113.out _; (with_reducible repeat (first | refine blk_drewN ?_ _ | refine blk_drew ?_ | refine blk_alloc ?_ _)); refine blk_far ?_ NB111_113.out _; (with_reducible repeat (first | refine blk_drewN ?_ _ | refine blk_drew ?_ | refine blk_alloc ?_ _)); exact BK111.out) hb); have n3_ := Aside0.mk (blk_below (g := gb112) (o := .cells #[.int .u64 0, .int .u64 0] 24 (0, 0)) (by (with_reducible repeat (first | refine blk_drewN ?_ _ | refine blk_drew ?_ | refine blk_alloc ?_ _)); refine blk_far ?_ NB112_113.out _; (with_reducible repeat (first | refine blk_drewN ?_ _ | refine blk_drew ?_ | refine blk_alloc ?_ _)); refine blk_far ?_ NB112_113.out _; (with_reducible repeat (first | refine blk_drewN ?_ _ | refine blk_drew ?_ | refine blk_alloc ?_ _)); exact BK112.out) hb); have n4_ := Aside0.mk (blk_below (g := gb113) (o := .cells #[.int .u64 t118, .int .u64 t119] 24 (0, 0)) (by (with_reducible repeat (first | refine blk_drewN ?_ _ | refine blk_drew ?_ | refine blk_alloc ?_ _)); refine blk_put (cs := #[.int .u64 t118, .int .u64 x114001_1]) ?_ 1 _ rfl; (with_reducible repeat (first | refine blk_drewN ?_ _ | refine blk_drew ?_ | refine blk_alloc ?_ _)); refine blk_put (cs := #[.int .u64 x114000_1, .int .u64 x114001_1]) ?_ 0 _ rfl; (with_reducible repeat (first | refine blk_drewN ?_ _ | refine blk_drew ?_ | refine blk_alloc ?_ _)); exact BK113.out) hb); have n5_ := Aside0.mk (blk_below (g := gb114) (o := .cells #[.int .u64 t115, .int .u64 t116] 24 (0, 0)) (by (with_reducible repeat (first | refine blk_drewN ?_ _ | refine blk_drew ?_ | refine blk_alloc ?_ _)); refine blk_far ?_ NB114_113.out _; (with_reducible repeat (first | refine blk_drewN ?_ _ | refine blk_drew ?_ | refine blk_alloc ?_ _)); refine blk_far ?_ NB114_113.out _; (with_reducible repeat (first | refine blk_drewN ?_ _ | refine blk_drew ?_ | refine blk_alloc ?_ _)); exact BK114.out) hb); have n6_ := Aside0.mk (below_step (bW HB.out) hb); clear BK109 BK110 BK111 BK112 BK113 BK114 HB; have BK109 := n0_; have BK110 := n1_; have BK111 := n2_; have BK112 := n3_; have BK113 := n4_; have BK114 := n5_; have HB := n6_; clear n0_ n1_ n2_ n3_ n4_ n5_ n6_; (try clear hb); (try clear hb2); (try clear hk); (try clear hi)))
         go_meet
         case rel => exact ⟨_, (decide (t121 ≥ 0)), (by first | rfl | (simp; done) | (simp [*]; done)), H', ⟨by have := HK1.out; have := HJ11.out; first | omega | exact Nat.le_refl _⟩, ⟨by (with_reducible repeat (first | refine blk_drewN ?_ _ | refine blk_drew ?_ | refine blk_alloc ?_ _)); exact BK109.out⟩, ⟨by (with_reducible repeat (first | refine blk_drewN ?_ _ | refine blk_drew ?_ | refine blk_alloc ?_ _)); exact BK110.out⟩, ⟨by (with_reducible repeat (first | refine blk_drewN ?_ _ | refine blk_drew ?_ | refine blk_alloc ?_ _)); exact BK111.out⟩, ⟨by (with_reducible repeat (first | refine blk_drewN ?_ _ | refine blk_drew ?_ | refine blk_alloc ?_ _)); exact BK112.out⟩, ⟨by (with_reducible repeat (first | refine blk_drewN ?_ _ | refine blk_drew ?_ | refine blk_alloc ?_ _)); exact BK113.out⟩, ⟨by (with_reducible repeat (first | refine blk_drewN ?_ _ | refine blk_drew ?_ | refine blk_alloc ?_ _)); exact BK114.out⟩, ⟨by repeat (first | (with_reducible first | exact HB.out | apply below_alloc | apply pw_below_drewN | apply below_drew1 | refine below_set ?_ GE109.out | refine below_set ?_ GE110.out | refine below_set ?_ GE111.out | refine below_set ?_ GE112.out | refine below_set ?_ GE113.out | refine below_set ?_ GE114.out) | exact HB.out)⟩⟩
       case rest =>
        clear HC31
        try clear c1
        try clear c2
        try clear p2
        try clear c3
        try clear c4
        try clear c5
        try clear p6
        try clear c9
        try clear c9b0
        try clear c10
        try clear c10b0
        try clear c10b1
        try clear c13
        try clear c14
        try clear c15
        try clear c16
        try clear c17
        try clear c19
        try clear c19b0
        try clear c21
        try clear c21b0
        try clear c21b1
        try clear c23
        try clear c24
        try clear c25
        try clear c26
        try clear c27
        try clear c31
        try clear c32
        try clear c33
        try clear c34
        try clear c35
        try clear c36
        try clear c39
        try clear c40
        try clear c41
        try clear c42
        try clear c43
        try clear c47
        try clear c49
        try clear c50
        try clear c51
        try clear c52
        try clear c53
        try clear c55
        try clear c56
        try clear c57
        try clear c58
        try clear hcz18_0
        try clear hcz18_1
        try clear hcz28_0
        try clear hcz28_1
        try clear hcz37_0
        try clear hcz37_1
        try clear hcz39_0
        try clear hcz39_1
        try clear hcz44_0
        try clear hcz44_1
        try clear hcz46_0
        try clear hcz46_1
        try clear hcz54_0
        try clear hcz54_1
        try clear hcz59_0
        try clear hcz59_1
        try clear hfz18_0
        try clear hfz18_1
        try clear hfz28_0
        try clear hfz28_1
        try clear hfz37_0
        try clear hfz37_1
        try clear hfz39_0
        try clear hfz39_1
        try clear hfz44_0
        try clear hfz44_1
        try clear hfz46_0
        try clear hfz46_1
        try clear hfz54_0
        try clear hfz54_1
        try clear hfz59_0
        try clear hfz59_1
        try clear p2
        try clear p6
        obtain ⟨kq, x49_30, rfl, HA, HJ30, BK109, BK110, BK111, BK112, BK113, BK114, HB⟩ := hcut
        cases kq with
        | zero => exact absurd HA.out (by simp [wide_long.j2])
        | succ kj30 =>
         have H := HA.out
         clear HA
         simp only [wide_long.j2] at H
         by_cases c61 : x49_30 = true
         ·
          subst c61
          have H1 : ((bits_Sub64.f t116 a1_1 0).bind fun bt122 => ((bits_Sub64.f t115 a1_0 bt122.2).bind fun bt124 => (wide_long.l0 kj30 (wrap64 (x8_1 - 1)) a0_0 a0_1 a1_0 a1_1 t118 (Go.bits .or .u64 t119 1) bt124.1 bt122.1))) = some (r1, r2, r3, r4) := by rw [if_pos rfl] at H; exact H
          clear H
          have H := H1
          clear H1
          replace H := Option.bind_eq_some_iff.mp H
          obtain ⟨⟨t122, t123⟩, A620, H⟩ := H
          replace H : ((bits_Sub64.f t115 a1_0 t123).bind fun bt124 => (wide_long.l0 kj30 (wrap64 (x8_1 - 1)) a0_0 a0_1 a1_0 a1_1 t118 (Go.bits .or .u64 t119 1) bt124.1 t122)) = some (r1, r2, r3, r4) := H
          have A62 := Aside0.mk A620
          clear A620
          replace H := Option.bind_eq_some_iff.mp H
          obtain ⟨⟨t124, t125⟩, A630, H⟩ := H
          replace H : (wide_long.l0 kj30 (wrap64 (x8_1 - 1)) a0_0 a0_1 a1_0 a1_1 t118 (Go.bits .or .u64 t119 1) t124 t122) = some (r1, r2, r3, r4) := H
          have A63 := Aside0.mk A630
          clear A630
          have H' := Aside0.mk H
          clear H
          have hnb64 := NB114_109.out
          have hnc64 := NB109_114.out
          have hnb65 := NB114_110.out
          have hnc65 := NB110_114.out
          have hnb66 := NB114_111.out
          have hnc66 := NB111_114.out
          have hnb67 := NB114_112.out
          have hnc67 := NB112_114.out
          have hnb68 := NB114_113.out
          have hnc68 := NB113_114.out
          have hcz69_0 : wc.cell? ⟨gb114, 0, none⟩ = some (.int .u64 t115) := (blk_cell BK114.out 0).trans rfl
          have hcz69_1 : wc.cell? ⟨gb114, 1, none⟩ = some (.int .u64 t116) := (blk_cell BK114.out 1).trans rfl
          have hfz69_0 := blk_frozen BK114.out 0
          have hfz69_1 := blk_frozen BK114.out 1
          have hnb70 := NB110_109.out
          have hnc70 := NB109_110.out
          have hnb71 := NB110_111.out
          have hnc71 := NB111_110.out
          have hnb72 := NB110_112.out
          have hnc72 := NB112_110.out
          have hnb73 := NB110_113.out
          have hnc73 := NB113_110.out
          have hcz74_0 : wc.cell? ⟨gb110, 0, none⟩ = some (.int .u64 a1_0) := (blk_cell BK110.out 0).trans rfl
          have hcz74_1 : wc.cell? ⟨gb110, 1, none⟩ = some (.int .u64 a1_1) := (blk_cell BK110.out 1).trans rfl
          have hfz74_0 := blk_frozen BK110.out 0
          have hfz74_1 := blk_frozen BK110.out 1
          have XA62 := fun W => bits_Sub64.run t116 a1_1 0 t122 t123 W A62.out
          have XA63 := fun W => bits_Sub64.run t115 a1_0 t123 t124 t125 W A63.out
          try go_wp2_with (first | (fail) | (fail))
          have n0_ := Aside0.mk (blk_drew BK109.out)
          have n1_ := Aside0.mk (blk_drew BK110.out)
          have n2_ := Aside0.mk (blk_drew BK111.out)
          have n3_ := Aside0.mk (blk_drew BK112.out)
          have n4_ := Aside0.mk (blk_drew BK113.out)
          have n5_ := Aside0.mk (blk_drew BK114.out)
          have n6_ := Aside0.mk (below_drew1 HB.out)
          clear BK109 BK110 BK111 BK112 BK113 BK114 HB
          have BK109 := n0_
          have BK110 := n1_
          have BK111 := n2_
          have BK112 := n3_
          have BK113 := n4_
          have BK114 := n5_
          have HB := n6_
          clear n0_ n1_ n2_ n3_ n4_ n5_ n6_
          refine start_ (n := 9) (S := fun w' => w'.cell? ⟨gb113, 0, none⟩ = some (.int .u64 t118) ∧ w'.cell? ⟨gb113, 1, none⟩ = some (.int .u64 t119)) (ds := [8]) #[false, false, false, false, false, false, false, false, false] (by kernel_rfl) rfl rfl ⟨(blk_cell BK113.out 0).trans rfl, (blk_cell BK113.out 1).trans rfl⟩ (fun hHeld => ?_); refine with_tabW wide_long.tab14 wide_long.bits14 (fun HT_ HW_ => ?_)
          generalize wc.drew = w75 at BK109 BK110 BK111 BK112 BK113 BK114 HB hHeld ⊢
          refine pure_ (i := 0) (N := some 67) (v := ?_) (a' := ?_) #[true, false, false, false, false, false, false, false, false] rfl rfl (any_of HT_.out (by kernel_rfl)) (fun _ _ _ h => h) (Or.inl ⟨by rfl, ?_⟩) ?_ ?_
          rotate_left
          ·
           intro w'
           go_simp
           with_reducible rfl
          rotate_left
          ·
           simp only [Act.put, List.setIfInBounds_toArray, List.set_cons_zero, List.set_cons_succ, i64_w, i32_w]
           rfl
          refine pure_ (i := 1) (N := some 68) (v := ?_) (a' := ?_) #[true, true, false, false, false, false, false, false, false] rfl rfl (any_of HT_.out (by kernel_rfl)) (fun _ _ _ h => h) (Or.inl ⟨by rfl, ?_⟩) ?_ ?_
          rotate_left
          ·
           intro w'
           go_simp
           with_reducible rfl
          rotate_left
          ·
           simp only [Act.put, List.setIfInBounds_toArray, List.set_cons_zero, List.set_cons_succ, i64_w, i32_w]
           rfl
          refine pure_ (i := 2) (N := some 69) (v := ?_) (a' := ?_) #[true, true, true, false, false, false, false, false, false] rfl rfl (any_of HT_.out (by kernel_rfl)) (fun _ _ _ h => h) (Or.inl ⟨by rfl, ?_⟩) ?_ ?_
          rotate_left
          ·
           intro w'
           go_simp
           with_reducible rfl
          rotate_left
          ·
           simp only [Act.put, List.setIfInBounds_toArray, List.set_cons_zero, List.set_cons_succ, i64_w, i32_w]
           rfl
          refine pure_ (i := 3) (N := some 70) (v := ?_) (a' := ?_) #[true, true, true, true, false, false, false, false, false] rfl rfl (any_of HT_.out (by kernel_rfl)) (fun _ _ _ h => h) (Or.inl ⟨by rfl, ?_⟩) ?_ ?_
          rotate_left
          ·
           intro w'
           go_simp
           with_reducible rfl
          rotate_left
          ·
           simp only [Act.put, List.setIfInBounds_toArray, List.set_cons_zero, List.set_cons_succ, i64_w, i32_w]
           rfl
          refine take_ (i := 4) (N := some 71) (v := ?_) (a' := ?_) #[true, true, true, true, true, false, false, false, false] rfl rfl (take_ofW HT_.out HW_.out (by kernel_rfl)) (fun _ _ _ h => h) (Or.inl ⟨by rfl, ?_⟩) hHeld ?_ ?_
          rotate_left
          ·
           rintro w' ⟨s0, s1⟩
           go_simp
           with_reducible rfl
          rotate_left
          ·
           simp only [Act.put, List.setIfInBounds_toArray, List.set_cons_zero, List.set_cons_succ, i64_w, i32_w]
           rfl
          refine pure_ (i := 5) (N := some 72) (v := ?_) (a' := ?_) #[true, true, true, true, true, true, false, false, false] rfl rfl (any_of HT_.out (by kernel_rfl)) (fun _ _ _ h => h) (Or.inl ⟨by rfl, ?_⟩) ?_ ?_
          rotate_left
          ·
           intro w'
           go_simp
           with_reducible rfl
          rotate_left
          ·
           simp only [Act.put, List.setIfInBounds_toArray, List.set_cons_zero, List.set_cons_succ, i64_w, i32_w]
           rfl
          refine one_ (i := 6) (N := none) #[true, true, true, true, true, true, true, false, false] rfl rfl (one_of HT_.out (by kernel_rfl)) (by decide) (fun K hK => ?_)
          have hs76 : w75.cell? ⟨gb114, 0, none⟩ = some (.int .u64 t115) := (blk_cell BK114.out 0).trans rfl
          have hfs76 := blk_frozen BK114.out 0
          have hns76_0 := NB109_114.out
          have hns76_1 := NB110_114.out
          have hns76_2 := NB111_114.out
          have hns76_3 := NB112_114.out
          have hns76_4 := NB113_114.out
          have hms76_0 := NB114_109.out
          have hms76_1 := NB114_110.out
          have hms76_2 := NB114_111.out
          have hms76_3 := NB114_112.out
          have hms76_4 := NB114_113.out
          have hs77 : w75.cell? ⟨gb114, 1, none⟩ = some (.int .u64 t116) := (blk_cell BK114.out 1).trans rfl
          have hfs77 := blk_frozen BK114.out 1
          have hns77_0 := NB109_114.out
          have hns77_1 := NB110_114.out
          have hns77_2 := NB111_114.out
          have hns77_3 := NB112_114.out
          have hns77_4 := NB113_114.out
          have hms77_0 := NB114_109.out
          have hms77_1 := NB114_110.out
          have hms77_2 := NB114_111.out
          have hms77_3 := NB114_112.out
          have hms77_4 := NB114_113.out
          refine skip_ (w1 := ?_) (by rfl) rfl ?_ ?_
          rotate_left
          ·
           go_simp
           rfl
          refine hK.out _ _ ⟨((cell_far (p := ⟨gb114, _, none⟩) NB113_114.out _).trans (((cell_far (p := ⟨gb114, _, none⟩) NB113_114.out _).trans (hHeld.1)))), ((cell_far (p := ⟨gb114, _, none⟩) NB113_114.out _).trans (((cell_far (p := ⟨gb114, _, none⟩) NB113_114.out _).trans (hHeld.2))))⟩ (fun hHeld => ?_)
          clear hK K
          refine pure_ (i := 7) (N := some 73) (v := ?_) (a' := ?_) #[true, true, true, true, true, true, true, true, false] rfl rfl (any_of HT_.out (by kernel_rfl)) (fun _ _ _ h => h) (Or.inl ⟨by rfl, ?_⟩) ?_ ?_
          rotate_left
          ·
           intro w'
           go_simp
           with_reducible rfl
          rotate_left
          ·
           simp only [Act.put, List.setIfInBounds_toArray, List.set_cons_zero, List.set_cons_succ, i64_w, i32_w]
           rfl
          refine last_ (i := 8) (N := none) #[true, true, true, true, true, true, true, true, true] rfl rfl (one_of HT_.out (by kernel_rfl)) (by decide) (fun K hK => ?_)
          have hs78 : w75.cell? ⟨gb113, 1, none⟩ = some (.int .u64 t119) := (blk_cell BK113.out 1).trans rfl
          have hfs78 := blk_frozen BK113.out 1
          have hns78_0 := NB109_113.out
          have hns78_1 := NB110_113.out
          have hns78_2 := NB111_113.out
          have hns78_3 := NB112_113.out
          have hns78_5 := NB114_113.out
          have hms78_0 := NB113_109.out
          have hms78_1 := NB113_110.out
          have hms78_2 := NB113_111.out
          have hms78_3 := NB113_112.out
          have hms78_5 := NB113_114.out
          refine skip_ (w1 := ?_) (by rfl) rfl ?_ ?_
          rotate_left
          ·
           go_simp
           rfl
          refine hK.out _ _ ?_
          clear hK K
          refine done_ (done_of HT_.out (by kernel_rfl)) ?_
          try go_wp2
          go_roundg kj30
          case measure => have := HK1.out; have := HJ11.out; have := HJ30.out; omega
          case rel => exact ⟨(wrap64 (x8_1 - 1)), (t118), (Go.bits .or .u64 t119 1), (t124), (t122), (by first | rfl | (simp; done) | (simp [*]; done)), H', ⟨by have := HK1.out; have := HJ11.out; have := HJ30.out; omega⟩, ⟨by (with_reducible repeat (first | refine blk_drewN ?_ _ | refine blk_drew ?_ | refine blk_alloc ?_ _)); refine blk_far ?_ NB109_113.out _; (with_reducible repeat (first | refine blk_drewN ?_ _ | refine blk_drew ?_ | refine blk_alloc ?_ _)); refine blk_far ?_ NB109_114.out _; (with_reducible repeat (first | refine blk_drewN ?_ _ | refine blk_drew ?_ | refine blk_alloc ?_ _)); refine blk_far ?_ NB109_114.out _; (with_reducible repeat (first | refine blk_drewN ?_ _ | refine blk_drew ?_ | refine blk_alloc ?_ _)); exact BK109.out⟩, ⟨by (with_reducible repeat (first | refine blk_drewN ?_ _ | refine blk_drew ?_ | refine blk_alloc ?_ _)); refine blk_far ?_ NB110_113.out _; (with_reducible repeat (first | refine blk_drewN ?_ _ | refine blk_drew ?_ | refine blk_alloc ?_ _)); refine blk_far ?_ NB110_114.out _; (with_reducible repeat (first | refine blk_drewN ?_ _ | refine blk_drew ?_ | refine blk_alloc ?_ _)); refine blk_far ?_ NB110_114.out _; (with_reducible repeat (first | refine blk_drewN ?_ _ | refine blk_drew ?_ | refine blk_alloc ?_ _)); exact BK110.out⟩, ⟨by (with_reducible repeat (first | refine blk_drewN ?_ _ | refine blk_drew ?_ | refine blk_alloc ?_ _)); refine blk_far ?_ NB111_113.out _; (with_reducible repeat (first | refine blk_drewN ?_ _ | refine blk_drew ?_ | refine blk_alloc ?_ _)); refine blk_far ?_ NB111_114.out _; (with_reducible repeat (first | refine blk_drewN ?_ _ | refine blk_drew ?_ | refine blk_alloc ?_ _)); refine blk_far ?_ NB111_114.out _; (with_reducible repeat (first | refine blk_drewN ?_ _ | refine blk_drew ?_ | refine blk_alloc ?_ _)); exact BK111.out⟩, ⟨by (with_reducible repeat (first | refine blk_drewN ?_ _ | refine blk_drew ?_ | refine blk_alloc ?_ _)); refine blk_far ?_ NB112_113.out _; (with_reducible repeat (first | refine blk_drewN ?_ _ | refine blk_drew ?_ | refine blk_alloc ?_ _)); refine blk_far ?_ NB112_114.out _; (with_reducible repeat (first | refine blk_drewN ?_ _ | refine blk_drew ?_ | refine blk_alloc ?_ _)); refine blk_far ?_ NB112_114.out _; (with_reducible repeat (first | refine blk_drewN ?_ _ | refine blk_drew ?_ | refine blk_alloc ?_ _)); exact BK112.out⟩, ⟨by (with_reducible repeat (first | refine blk_drewN ?_ _ | refine blk_drew ?_ | refine blk_alloc ?_ _)); refine blk_put (cs := #[.int .u64 t118, .int .u64 t119]) ?_ 1 _ rfl; (with_reducible repeat (first | refine blk_drewN ?_ _ | refine blk_drew ?_ | refine blk_alloc ?_ _)); refine blk_far ?_ NB113_114.out _; (with_reducible repeat (first | refine blk_drewN ?_ _ | refine blk_drew ?_ | refine blk_alloc ?_ _)); refine blk_far ?_ NB113_114.out _; (with_reducible repeat (first | refine blk_drewN ?_ _ | refine blk_drew ?_ | refine blk_alloc ?_ _)); exact BK113.out⟩, ⟨by (with_reducible repeat (first | refine blk_drewN ?_ _ | refine blk_drew ?_ | refine blk_alloc ?_ _)); refine blk_far ?_ NB114_113.out _; (with_reducible repeat (first | refine blk_drewN ?_ _ | refine blk_drew ?_ | refine blk_alloc ?_ _)); refine blk_put (cs := #[.int .u64 t124, .int .u64 t116]) ?_ 1 _ rfl; (with_reducible repeat (first | refine blk_drewN ?_ _ | refine blk_drew ?_ | refine blk_alloc ?_ _)); refine blk_put (cs := #[.int .u64 t115, .int .u64 t116]) ?_ 0 _ rfl; (with_reducible repeat (first | refine blk_drewN ?_ _ | refine blk_drew ?_ | refine blk_alloc ?_ _)); exact BK114.out⟩, ⟨by repeat (first | (with_reducible first | exact HB.out | apply below_alloc | apply pw_below_drewN | apply below_drew1 | refine below_set ?_ GE109.out | refine below_set ?_ GE110.out | refine below_set ?_ GE111.out | refine below_set ?_ GE112.out | refine below_set ?_ GE113.out | refine below_set ?_ GE114.out) | exact HB.out)⟩⟩
         ·
          replace c61 := Bool.eq_false_iff.mpr c61
          subst c61
          have H1 : (wide_long.l0 kj30 (wrap64 (x8_1 - 1)) a0_0 a0_1 a1_0 a1_1 t118 t119 t115 t116) = some (r1, r2, r3, r4) := by rw [if_neg (show ¬ (false = true) by decide)] at H; exact H
          clear H
          have H := H1
          clear H1
          have H' := Aside0.mk H
          clear H
          go_wp2
          go_roundg kj30
          case measure => have := HK1.out; have := HJ11.out; have := HJ30.out; omega
          case rel => exact ⟨(wrap64 (x8_1 - 1)), (t118), (t119), (t115), (t116), (by first | rfl | (simp; done) | (simp [*]; done)), H', ⟨by have := HK1.out; have := HJ11.out; have := HJ30.out; omega⟩, ⟨by (with_reducible repeat (first | refine blk_drewN ?_ _ | refine blk_drew ?_ | refine blk_alloc ?_ _)); exact BK109.out⟩, ⟨by (with_reducible repeat (first | refine blk_drewN ?_ _ | refine blk_drew ?_ | refine blk_alloc ?_ _)); exact BK110.out⟩, ⟨by (with_reducible repeat (first | refine blk_drewN ?_ _ | refine blk_drew ?_ | refine blk_alloc ?_ _)); exact BK111.out⟩, ⟨by (with_reducible repeat (first | refine blk_drewN ?_ _ | refine blk_drew ?_ | refine blk_alloc ?_ _)); exact BK112.out⟩, ⟨by (with_reducible repeat (first | refine blk_drewN ?_ _ | refine blk_drew ?_ | refine blk_alloc ?_ _)); exact BK113.out⟩, ⟨by (with_reducible repeat (first | refine blk_drewN ?_ _ | refine blk_drew ?_ | refine blk_alloc ?_ _)); exact BK114.out⟩, ⟨by repeat (first | (with_reducible first | exact HB.out | apply below_alloc | apply pw_below_drewN | apply below_drew1 | refine below_set ?_ GE109.out | refine below_set ?_ GE110.out | refine below_set ?_ GE111.out | refine below_set ?_ GE112.out | refine below_set ?_ GE113.out | refine below_set ?_ GE114.out) | exact HB.out)⟩⟩
    ·
     rw [if_neg c10] at H
     exact absurd H (by simp)
   ·
    rw [if_neg c9] at H
    have c9b0 : decide (0 ≤ x8_1) = false := decide_eq_false c9
    clear c9
    simp only [Option.some.injEq, Prod.mk.injEq] at H
    obtain ⟨rfl, rfl, rfl, rfl⟩ := H
    try go_wp2
    have n0_ := Aside0.mk (blk_drew BK109.out)
    have n1_ := Aside0.mk (blk_drew BK110.out)
    have n2_ := Aside0.mk (blk_drew BK111.out)
    have n3_ := Aside0.mk (blk_drew BK112.out)
    have n4_ := Aside0.mk (blk_drew BK113.out)
    have n5_ := Aside0.mk (blk_drew BK114.out)
    have n6_ := Aside0.mk (below_drew1 HB.out)
    clear BK109 BK110 BK111 BK112 BK113 BK114 HB
    have BK109 := n0_
    have BK110 := n1_
    have BK111 := n2_
    have BK112 := n3_
    have BK113 := n4_
    have BK114 := n5_
    have HB := n6_
    clear n0_ n1_ n2_ n3_ n4_ n5_ n6_
    refine start_ (n := 4) (S := fun w' => w'.cell? ⟨gb113, 0, none⟩ = some (.int .u64 x114000_1) ∧ w'.cell? ⟨gb113, 1, none⟩ = some (.int .u64 x114001_1) ∧ w'.cell? ⟨gb114, 0, none⟩ = some (.int .u64 x115000_1) ∧ w'.cell? ⟨gb114, 1, none⟩ = some (.int .u64 x115001_1)) (ds := []) #[false, false, false, false] (by kernel_rfl) rfl rfl ⟨(blk_cell BK113.out 0).trans rfl, (blk_cell BK113.out 1).trans rfl, (blk_cell BK114.out 0).trans rfl, (blk_cell BK114.out 1).trans rfl⟩ (fun hHeld => ?_)
    generalize wr.drew = w79 at BK109 BK110 BK111 BK112 BK113 BK114 HB hHeld ⊢
    refine take_ (i := 0) (N := some 74) (v := ?_) (a' := ?_) #[true, false, false, false] rfl rfl (by kernel_rfl) (fun _ _ _ h => h) (Or.inl ⟨by rfl, ?_⟩) hHeld ?_ ?_
    rotate_left
    ·
     rintro w' ⟨s0, s1, s2, s3⟩
     go_simp
     with_reducible rfl
    rotate_left
    ·
     simp only [Act.put, List.setIfInBounds_toArray, List.set_cons_zero, List.set_cons_succ, i64_w, i32_w]
     rfl
    refine take_ (i := 1) (N := some 75) (v := ?_) (a' := ?_) #[true, true, false, false] rfl rfl (by kernel_rfl) (fun _ _ _ h => h) (Or.inl ⟨by rfl, ?_⟩) hHeld ?_ ?_
    rotate_left
    ·
     rintro w' ⟨s0, s1, s2, s3⟩
     go_simp
     with_reducible rfl
    rotate_left
    ·
     simp only [Act.put, List.setIfInBounds_toArray, List.set_cons_zero, List.set_cons_succ, i64_w, i32_w]
     rfl
    refine one_ (i := 2) (N := none) #[true, true, true, false] rfl rfl (by kernel_rfl) (by decide) (fun K hK => ?_)
    have hs80 : w79.cell? ⟨gb111, 0, none⟩ = some (.int .u64 0) := (blk_cell BK111.out 0).trans rfl
    have hfs80 := blk_frozen BK111.out 0
    have hns80_0 := NB109_111.out
    have hns80_1 := NB110_111.out
    have hns80_3 := NB112_111.out
    have hns80_4 := NB113_111.out
    have hns80_5 := NB114_111.out
    have hms80_0 := NB111_109.out
    have hms80_1 := NB111_110.out
    have hms80_3 := NB111_112.out
    have hms80_4 := NB111_113.out
    have hms80_5 := NB111_114.out
    have hs81 : w79.cell? ⟨gb111, 1, none⟩ = some (.int .u64 0) := (blk_cell BK111.out 1).trans rfl
    have hfs81 := blk_frozen BK111.out 1
    have hns81_0 := NB109_111.out
    have hns81_1 := NB110_111.out
    have hns81_3 := NB112_111.out
    have hns81_4 := NB113_111.out
    have hns81_5 := NB114_111.out
    have hms81_0 := NB111_109.out
    have hms81_1 := NB111_110.out
    have hms81_3 := NB111_112.out
    have hms81_4 := NB111_113.out
    have hms81_5 := NB111_114.out
    refine skip_ (w1 := ?_) (by rfl) rfl ?_ ?_
    rotate_left
    ·
     go_simp
     rfl
    refine hK.out _ _ ⟨((cell_far (p := ⟨gb111, _, none⟩) NB113_111.out _).trans (((cell_far (p := ⟨gb111, _, none⟩) NB113_111.out _).trans (hHeld.1)))), ((cell_far (p := ⟨gb111, _, none⟩) NB113_111.out _).trans (((cell_far (p := ⟨gb111, _, none⟩) NB113_111.out _).trans (hHeld.2.1)))), ((cell_far (p := ⟨gb111, _, none⟩) NB114_111.out _).trans (((cell_far (p := ⟨gb111, _, none⟩) NB114_111.out _).trans (hHeld.2.2.1)))), ((cell_far (p := ⟨gb111, _, none⟩) NB114_111.out _).trans (((cell_far (p := ⟨gb111, _, none⟩) NB114_111.out _).trans (hHeld.2.2.2))))⟩ (fun hHeld => ?_)
    clear hK K
    refine one_ (i := 3) (N := none) #[true, true, true, true] rfl rfl (by kernel_rfl) (by decide) (fun K hK => ?_)
    have hs82 : w79.cell? ⟨gb112, 0, none⟩ = some (.int .u64 0) := (blk_cell BK112.out 0).trans rfl
    have hfs82 := blk_frozen BK112.out 0
    have hns82_0 := NB109_112.out
    have hns82_1 := NB110_112.out
    have hns82_2 := NB111_112.out
    have hns82_4 := NB113_112.out
    have hns82_5 := NB114_112.out
    have hms82_0 := NB112_109.out
    have hms82_1 := NB112_110.out
    have hms82_2 := NB112_111.out
    have hms82_4 := NB112_113.out
    have hms82_5 := NB112_114.out
    have hs83 : w79.cell? ⟨gb112, 1, none⟩ = some (.int .u64 0) := (blk_cell BK112.out 1).trans rfl
    have hfs83 := blk_frozen BK112.out 1
    have hns83_0 := NB109_112.out
    have hns83_1 := NB110_112.out
    have hns83_2 := NB111_112.out
    have hns83_4 := NB113_112.out
    have hns83_5 := NB114_112.out
    have hms83_0 := NB112_109.out
    have hms83_1 := NB112_110.out
    have hms83_2 := NB112_111.out
    have hms83_4 := NB112_113.out
    have hms83_5 := NB112_114.out
    refine skip_ (w1 := ?_) (by rfl) rfl ?_ ?_
    rotate_left
    ·
     go_simp
     rfl
    refine hK.out _ _ ⟨((cell_far (p := ⟨gb112, _, none⟩) NB113_112.out _).trans (((cell_far (p := ⟨gb112, _, none⟩) NB113_112.out _).trans (hHeld.1)))), ((cell_far (p := ⟨gb112, _, none⟩) NB113_112.out _).trans (((cell_far (p := ⟨gb112, _, none⟩) NB113_112.out _).trans (hHeld.2.1)))), ((cell_far (p := ⟨gb112, _, none⟩) NB114_112.out _).trans (((cell_far (p := ⟨gb112, _, none⟩) NB114_112.out _).trans (hHeld.2.2.1)))), ((cell_far (p := ⟨gb112, _, none⟩) NB114_112.out _).trans (((cell_far (p := ⟨gb112, _, none⟩) NB114_112.out _).trans (hHeld.2.2.2))))⟩ (fun hHeld => ?_)
    clear hK K
    refine done_ (by kernel_rfl) ?_
    try go_wp2
    refine bodyPost_ret (results_cc rfl _ _ gb111 gb112 24 24 #[.int .u64 x114000_1, .int .u64 x114001_1] #[.int .u64 x115000_1, .int .u64 x115001_1] (0, 0) (0, 0) _ _ rfl (by (with_reducible repeat (first | refine blk_drewN ?_ _ | refine blk_drew ?_ | refine blk_alloc ?_ _)); refine blk_far ?_ NB111_112.out _; (with_reducible repeat (first | refine blk_drewN ?_ _ | refine blk_drew ?_ | refine blk_alloc ?_ _)); refine blk_far ?_ NB111_112.out _; (with_reducible repeat (first | refine blk_drewN ?_ _ | refine blk_drew ?_ | refine blk_alloc ?_ _)); refine blk_put (cs := #[.int .u64 x114000_1, .int .u64 0]) ?_ 1 _ rfl; (with_reducible repeat (first | refine blk_drewN ?_ _ | refine blk_drew ?_ | refine blk_alloc ?_ _)); refine blk_put (cs := #[.int .u64 0, .int .u64 0]) ?_ 0 _ rfl; (with_reducible repeat (first | refine blk_drewN ?_ _ | refine blk_drew ?_ | refine blk_alloc ?_ _)); exact BK111.out) Try.underlying24 rfl (by kernel_rfl) rfl (by (with_reducible repeat (first | refine blk_drewN ?_ _ | refine blk_drew ?_ | refine blk_alloc ?_ _)); refine blk_put (cs := #[.int .u64 x115000_1, .int .u64 0]) ?_ 1 _ rfl; (with_reducible repeat (first | refine blk_drewN ?_ _ | refine blk_drew ?_ | refine blk_alloc ?_ _)); refine blk_put (cs := #[.int .u64 0, .int .u64 0]) ?_ 0 _ rfl; (with_reducible repeat (first | refine blk_drewN ?_ _ | refine blk_drew ?_ | refine blk_alloc ?_ _)); refine blk_far ?_ NB112_111.out _; (with_reducible repeat (first | refine blk_drewN ?_ _ | refine blk_drew ?_ | refine blk_alloc ?_ _)); refine blk_far ?_ NB112_111.out _; (with_reducible repeat (first | refine blk_drewN ?_ _ | refine blk_drew ?_ | refine blk_alloc ?_ _)); exact BK112.out) Try.underlying24 rfl (by kernel_rfl)) rfl ?_
    exact ⟨by first | rfl | (simp [errW_none, errW_some] <;> rfl) | (simp [*, errW_none, errW_some] <;> rfl), by repeat (first | (with_reducible first | exact HB.out | apply below_alloc | apply pw_below_drewN | apply below_drew1 | refine below_set ?_ GE109.out | refine below_set ?_ GE110.out | refine below_set ?_ GE111.out | refine below_set ?_ GE112.out | refine below_set ?_ GE113.out | refine below_set ?_ GE114.out) | exact HB.out)⟩
end Go.Proofs.Ytbpcehbcbcojiaa.D
