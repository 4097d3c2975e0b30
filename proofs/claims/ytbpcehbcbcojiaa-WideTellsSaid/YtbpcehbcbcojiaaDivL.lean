import Derived.Test.YtbpcehbcbcojiaaDx0
import Derived.Test.YtbpcehbcbcojiaaDx1
import Derived.Test.YtbpcehbcbcojiaaDx2
import Derived.Test.YtbpcehbcbcojiaaDx4
namespace Go.Proofs.Ytbpcehbcbcojiaa.D
open Go.RowKit Go.Proofs.YtbpcehbcbcojiaaW.PrintWords Go.Proofs.YtbpcehbcbcojiaaW.PrintLast Go.Proofs.YtbpcehbcbcojiaaW.PrintMore
attribute [local go_sem] max2_int min2_int max_two min_two max_three min_three max_four min_four
set_option linter.unusedVariables false
set_option linter.unusedSimpArgs false
attribute [local go_sem high] eqA24
set_option maxHeartbeats 8000000 in
set_option maxRecDepth 100000 in
theorem div_long.calls (k : Nat) (a0_0 a0_1 a1_0 a1_1 t136 t137 t138 t139 : Int) (w : World) (c17 : ¬ a1_0 = 0) (hA : wide_long.f k a0_0 a0_1 a1_0 a1_1 = some (t136, t137, t138, t139)) :
  Calls Try.prog 20 #[.agg #[.int .u64 a0_0, .int .u64 a0_1], .agg #[.int .u64 a1_0, .int .u64 a1_1]] w fun e w' => e = .returned (.tuple #[.agg #[.int .u64 t136, .int .u64 t137], .agg #[.int .u64 t138, .int .u64 t139], .bool true]) ∧ Below w.heap.size w w' := by
 have hu24 := Try.underlying24
 have HB := Aside0.mk (Below.refl w.heap.size w)
 have c3b0 : (a1_0 == 0 && (a1_1 == 0)) = false := by simp [c17]
 (try (have c3b1 : decide (a1_0 = 0 && (a1_1 == 0)) = false := by simpa using c3b0))
 (try (have c3b3 : ¬ (a1_0 = 0 && (a1_1 == 0)) := by simpa using c3b0))
 have c17b0 : (a1_0 == 0) = false := beq_eq_false_iff_ne.mpr c17
 have c17b1 : (a1_0 != 0) = true := bne_iff_ne.mpr c17
 have A36 := Aside0.mk hA
 clear hA
 go_enter Try.func20, Try.ntmps20
 try go_wp2_with (first | ((with_reducible refine gate_dst (N := 2) rfl ?_); refine box_event ?hg (N := 2) ?hd (cs := #[.int .u64 a0_0, .int .u64 a0_1]) (t := 24) ?hr ?_; (case hd => rfl); (case hg => rfl); (case hr => first | (go_simp; done) | (go_simp; rfl)); intro gb126 hg w37 hbox hb; have n0_ := Aside0.mk (below_step (bW HB.out) hb); have n1_ := Aside0.mk (hbox); have n2_ := Aside0.mk ((by rw [hg]; exact (below_size (bW HB.out)) : w.heap.size ≤ gb126)); have n3_ := Aside0.mk ((by rw [hg]; exact (below_size (bW HB.out)) : w.heap.size ≤ gb126)); clear HB; have HB := n0_; have BK126 := n1_; have GW126 := n2_; have GE126 := n3_; clear n0_ n1_ n2_ n3_ hb hbox hg) | ((with_reducible refine gate_dst (N := 3) rfl ?_); refine box_event ?hg (N := 3) ?hd (cs := #[.int .u64 a1_0, .int .u64 a1_1]) (t := 24) ?hr ?_; (case hd => rfl); (case hg => rfl); (case hr => first | (go_simp; done) | (go_simp; rfl)); intro gb127 hg w38 hbox hb; have n0_ := Aside0.mk (blk_below (bT BK126.out) hb); have n1_ := Aside0.mk (below_step (bW HB.out) hb); have n2_ := Aside0.mk (hbox); have n3_ := Aside0.mk ((by rw [hg]; exact (below_size (bW HB.out)) : w.heap.size ≤ gb127)); have n4_ := Aside0.mk ((by rw [hg]; exact (below_size (bW HB.out)) : w.heap.size ≤ gb127)); have n5_ := Aside0.mk ((by rw [hg]; exact Nat.ne_of_lt (blk_lt (bT BK126.out)) : gb126 ≠ gb127)); have n6_ := Aside0.mk ((by rw [hg]; exact Nat.ne_of_gt (blk_lt (bT BK126.out)) : gb127 ≠ gb126)); clear BK126 HB; have BK126 := n0_; have HB := n1_; have BK127 := n2_; have GW127 := n3_; have GE127 := n4_; have NB126_127 := n5_; have NB127_126 := n6_; clear n0_ n1_ n2_ n3_ n4_ n5_ n6_ hb hbox hg) | ((with_reducible refine gate_dst (N := 4) rfl ?_); refine box_event ?hg (N := 4) ?hd (cs := #[.int .u64 0, .int .u64 0]) (t := 24) ?hr ?_; (case hd => rfl); (case hg => rfl); (case hr => first | (go_simp; done) | (go_simp; rfl)); intro gb128 hg w39 hbox hb; have n0_ := Aside0.mk (blk_below (bT BK126.out) hb); have n1_ := Aside0.mk (blk_below (bT BK127.out) hb); have n2_ := Aside0.mk (below_step (bW HB.out) hb); have n3_ := Aside0.mk (hbox); have n4_ := Aside0.mk ((by rw [hg]; exact (below_size (bW HB.out)) : w.heap.size ≤ gb128)); have n5_ := Aside0.mk ((by rw [hg]; exact (below_size (bW HB.out)) : w.heap.size ≤ gb128)); have n6_ := Aside0.mk ((by rw [hg]; exact Nat.ne_of_lt (blk_lt (bT BK126.out)) : gb126 ≠ gb128)); have n7_ := Aside0.mk ((by rw [hg]; exact Nat.ne_of_gt (blk_lt (bT BK126.out)) : gb128 ≠ gb126)); have n8_ := Aside0.mk ((by rw [hg]; exact Nat.ne_of_lt (blk_lt (bT BK127.out)) : gb127 ≠ gb128)); have n9_ := Aside0.mk ((by rw [hg]; exact Nat.ne_of_gt (blk_lt (bT BK127.out)) : gb128 ≠ gb127)); clear BK126 BK127 HB; have BK126 := n0_; have BK127 := n1_; have HB := n2_; have BK128 := n3_; have GW128 := n4_; have GE128 := n5_; have NB126_128 := n6_; have NB128_126 := n7_; have NB127_128 := n8_; have NB128_127 := n9_; clear n0_ n1_ n2_ n3_ n4_ n5_ n6_ n7_ n8_ n9_ hb hbox hg) | ((with_reducible refine gate_dst (N := 5) rfl ?_); refine box_event ?hg (N := 5) ?hd (cs := #[.int .u64 0, .int .u64 0]) (t := 24) ?hr ?_; (case hd => rfl); (case hg => rfl); (case hr => first | (go_simp; done) | (go_simp; rfl)); intro gb129 hg w40 hbox hb; have n0_ := Aside0.mk (blk_below (bT BK126.out) hb); have n1_ := Aside0.mk (blk_below (bT BK127.out) hb); have n2_ := Aside0.mk (blk_below (bT BK128.out) hb); have n3_ := Aside0.mk (below_step (bW HB.out) hb); have n4_ := Aside0.mk (hbox); have n5_ := Aside0.mk ((by rw [hg]; exact (below_size (bW HB.out)) : w.heap.size ≤ gb129)); have n6_ := Aside0.mk ((by rw [hg]; exact (below_size (bW HB.out)) : w.heap.size ≤ gb129)); have n7_ := Aside0.mk ((by rw [hg]; exact Nat.ne_of_lt (blk_lt (bT BK126.out)) : gb126 ≠ gb129)); have n8_ := Aside0.mk ((by rw [hg]; exact Nat.ne_of_gt (blk_lt (bT BK126.out)) : gb129 ≠ gb126)); have n9_ := Aside0.mk ((by rw [hg]; exact Nat.ne_of_lt (blk_lt (bT BK127.out)) : gb127 ≠ gb129)); have n10_ := Aside0.mk ((by rw [hg]; exact Nat.ne_of_gt (blk_lt (bT BK127.out)) : gb129 ≠ gb127)); have n11_ := Aside0.mk ((by rw [hg]; exact Nat.ne_of_lt (blk_lt (bT BK128.out)) : gb128 ≠ gb129)); have n12_ := Aside0.mk ((by rw [hg]; exact Nat.ne_of_gt (blk_lt (bT BK128.out)) : gb129 ≠ gb128)); clear BK126 BK127 BK128 HB; have BK126 := n0_; have BK127 := n1_; have BK128 := n2_; have HB := n3_; have BK129 := n4_; have GW129 := n5_; have GE129 := n6_; have NB126_129 := n7_; have NB129_126 := n8_; have NB127_129 := n9_; have NB129_127 := n10_; have NB128_129 := n11_; have NB129_128 := n12_; clear n0_ n1_ n2_ n3_ n4_ n5_ n6_ n7_ n8_ n9_ n10_ n11_ n12_ hb hbox hg; have hnb41 := NB127_126.out; have hnc41 := NB126_127.out; have hnb42 := NB127_128.out; have hnc42 := NB128_127.out; have hnb43 := NB127_129.out; have hnc43 := NB129_127.out; have hcz44_0 : w40.cell? ⟨gb127, 0, none⟩ = some (.int .u64 a1_0) := (blk_cell BK127.out 0).trans rfl; have hcz44_1 : w40.cell? ⟨gb127, 1, none⟩ = some (.int .u64 a1_1) := (blk_cell BK127.out 1).trans rfl; have hfz44_0 := blk_frozen BK127.out 0; have hfz44_1 := blk_frozen BK127.out 1; have hnb45 := NB126_128.out; have hnc45 := NB128_126.out; have hnb46 := NB126_129.out; have hnc46 := NB129_126.out; have hcz47_0 : w40.cell? ⟨gb126, 0, none⟩ = some (.int .u64 a0_0) := (blk_cell BK126.out 0).trans rfl; have hcz47_1 : w40.cell? ⟨gb126, 1, none⟩ = some (.int .u64 a0_1) := (blk_cell BK126.out 1).trans rfl; have hfz47_0 := blk_frozen BK126.out 0; have hfz47_1 := blk_frozen BK126.out 1) | ((with_reducible refine gate_callee (f := 31) rfl ?_); refine goesL_ (some 25) rfl rfl Try.func31 (by kernel_rfl) rfl #[.agg #[.int .u64 a0_0, .int .u64 a0_1], .agg #[.int .u64 a1_0, .int .u64 a1_1]] rfl (by (try simp only [List.map_toArray, List.map_cons, List.map_nil]); first | done | rfl | (simp only [List.length_drop, List.length_take]; rfl)) ?_; (with_reducible refine (wide_long.calls k a0_0 a0_1 a1_0 a1_1 t136 t137 t138 t139 _ A36.out).mono ?_); rintro e w48 ⟨rfl, hb⟩; refine ⟨_, rfl, ?_⟩; have n0_ := Aside0.mk (blk_below (bT BK126.out) hb); have n1_ := Aside0.mk (blk_below (bT BK127.out) hb); have n2_ := Aside0.mk (blk_below (bT BK128.out) hb); have n3_ := Aside0.mk (blk_below (bT BK129.out) hb); have n4_ := Aside0.mk (below_step (bW HB.out) hb); clear BK126 BK127 BK128 BK129 HB; have BK126 := n0_; have BK127 := n1_; have BK128 := n2_; have BK129 := n3_; have HB := n4_; clear n0_ n1_ n2_ n3_ n4_; (try clear hb); (try clear hb2); (try clear hk); (try clear hi)) | ((with_reducible refine gate_dst (N := 7) rfl ?_); refine box_event ?hg (N := 7) ?hd (cs := #[.int .u64 0, .int .u64 0]) (t := 24) ?hr ?_; (case hd => rfl); (case hg => rfl); (case hr => first | (go_simp; done) | (go_simp; rfl)); intro gb140 hg w49 hbox hb; have n0_ := Aside0.mk (blk_below (bT BK126.out) hb); have n1_ := Aside0.mk (blk_below (bT BK127.out) hb); have n2_ := Aside0.mk (blk_below (bT BK128.out) hb); have n3_ := Aside0.mk (blk_below (bT BK129.out) hb); have n4_ := Aside0.mk (below_step (bW HB.out) hb); have n5_ := Aside0.mk (hbox); have n6_ := Aside0.mk ((by rw [hg]; exact (below_size (bW HB.out)) : w.heap.size ≤ gb140)); have n7_ := Aside0.mk ((by rw [hg]; exact (below_size (bW HB.out)) : w.heap.size ≤ gb140)); have n8_ := Aside0.mk ((by rw [hg]; exact Nat.ne_of_lt (blk_lt (bT BK126.out)) : gb126 ≠ gb140)); have n9_ := Aside0.mk ((by rw [hg]; exact Nat.ne_of_gt (blk_lt (bT BK126.out)) : gb140 ≠ gb126)); have n10_ := Aside0.mk ((by rw [hg]; exact Nat.ne_of_lt (blk_lt (bT BK127.out)) : gb127 ≠ gb140)); have n11_ := Aside0.mk ((by rw [hg]; exact Nat.ne_of_gt (blk_lt (bT BK127.out)) : gb140 ≠ gb127)); have n12_ := Aside0.mk ((by rw [hg]; exact Nat.ne_of_lt (blk_lt (bT BK128.out)) : gb128 ≠ gb140)); have n13_ := Aside0.mk ((by rw [hg]; exact Nat.ne_of_gt (blk_lt (bT BK128.out)) : gb140 ≠ gb128)); have n14_ := Aside0.mk ((by rw [hg]; exact Nat.ne_of_lt (blk_lt (bT BK129.out)) : gb129 ≠ gb140)); have n15_ := Aside0.mk ((by rw [hg]; exact Nat.ne_of_gt (blk_lt (bT BK129.out)) : gb140 ≠ gb129)); clear BK126 BK127 BK128 BK129 HB; have BK126 := n0_; have BK127 := n1_; have BK128 := n2_; have BK129 := n3_; have HB := n4_; have BK140 := n5_; have GW140 := n6_; have GE140 := n7_; have NB126_140 := n8_; have NB140_126 := n9_; have NB127_140 := n10_; have NB140_127 := n11_; have NB128_140 := n12_; have NB140_128 := n13_; have NB129_140 := n14_; have NB140_129 := n15_; clear n0_ n1_ n2_ n3_ n4_ n5_ n6_ n7_ n8_ n9_ n10_ n11_ n12_ n13_ n14_ n15_ hb hbox hg) | ((with_reducible refine gate_dst (N := 8) rfl ?_); refine box_event ?hg (N := 8) ?hd (cs := #[.int .u64 0, .int .u64 0]) (t := 24) ?hr ?_; (case hd => rfl); (case hg => rfl); (case hr => first | (go_simp; done) | (go_simp; rfl)); intro gb141 hg w50 hbox hb; have n0_ := Aside0.mk (blk_below (bT BK126.out) hb); have n1_ := Aside0.mk (blk_below (bT BK127.out) hb); have n2_ := Aside0.mk (blk_below (bT BK128.out) hb); have n3_ := Aside0.mk (blk_below (bT BK129.out) hb); have n4_ := Aside0.mk (blk_below (bT BK140.out) hb); have n5_ := Aside0.mk (below_step (bW HB.out) hb); have n6_ := Aside0.mk (hbox); have n7_ := Aside0.mk ((by rw [hg]; exact (below_size (bW HB.out)) : w.heap.size ≤ gb141)); have n8_ := Aside0.mk ((by rw [hg]; exact (below_size (bW HB.out)) : w.heap.size ≤ gb141)); have n9_ := Aside0.mk ((by rw [hg]; exact Nat.ne_of_lt (blk_lt (bT BK126.out)) : gb126 ≠ gb141)); have n10_ := Aside0.mk ((by rw [hg]; exact Nat.ne_of_gt (blk_lt (bT BK126.out)) : gb141 ≠ gb126)); have n11_ := Aside0.mk ((by rw [hg]; exact Nat.ne_of_lt (blk_lt (bT BK127.out)) : gb127 ≠ gb141)); have n12_ := Aside0.mk ((by rw [hg]; exact Nat.ne_of_gt (blk_lt (bT BK127.out)) : gb141 ≠ gb127)); have n13_ := Aside0.mk ((by rw [hg]; exact Nat.ne_of_lt (blk_lt (bT BK128.out)) : gb128 ≠ gb141)); have n14_ := Aside0.mk ((by rw [hg]; exact Nat.ne_of_gt (blk_lt (bT BK128.out)) : gb141 ≠ gb128)); have n15_ := Aside0.mk ((by rw [hg]; exact Nat.ne_of_lt (blk_lt (bT BK129.out)) : gb129 ≠ gb141)); have n16_ := Aside0.mk ((by rw [hg]; exact Nat.ne_of_gt (blk_lt (bT BK129.out)) : gb141 ≠ gb129)); have n17_ := Aside0.mk ((by rw [hg]; exact Nat.ne_of_lt (blk_lt (bT BK140.out)) : gb140 ≠ gb141)); have n18_ := Aside0.mk ((by rw [hg]; exact Nat.ne_of_gt (blk_lt (bT BK140.out)) : gb141 ≠ gb140)); clear BK126 BK127 BK128 BK129 BK140 HB; have BK126 := n0_; have BK127 := n1_; have BK128 := n2_; have BK129 := n3_; have BK140 := n4_; have HB := n5_; have BK141 := n6_; have GW141 := n7_; have GE141 := n8_; have NB126_141 := n9_; have NB141_126 := n10_; have NB127_141 := n11_; have NB141_127 := n12_; have NB128_141 := n13_; have NB141_128 := n14_; have NB129_141 := n15_; have NB141_129 := n16_; have NB140_141 := n17_; have NB141_140 := n18_; clear n0_ n1_ n2_ n3_ n4_ n5_ n6_ n7_ n8_ n9_ n10_ n11_ n12_ n13_ n14_ n15_ n16_ n17_ n18_ hb hbox hg; have hnb51 := NB140_126.out; have hnc51 := NB126_140.out; have hnb52 := NB140_127.out; have hnc52 := NB127_140.out; have hnb53 := NB140_128.out; have hnc53 := NB128_140.out; have hnb54 := NB140_129.out; have hnc54 := NB129_140.out; have hnb55 := NB140_141.out; have hnc55 := NB141_140.out; have hcz56_0 : w50.cell? ⟨gb140, 0, none⟩ = some (.int .u64 0) := (blk_cell BK140.out 0).trans rfl; have hcz56_1 : w50.cell? ⟨gb140, 1, none⟩ = some (.int .u64 0) := (blk_cell BK140.out 1).trans rfl; have hfz56_0 := blk_frozen BK140.out 0; have hfz56_1 := blk_frozen BK140.out 1; have hnb57 := NB141_126.out; have hnc57 := NB126_141.out; have hnb58 := NB141_127.out; have hnc58 := NB127_141.out; have hnb59 := NB141_128.out; have hnc59 := NB128_141.out; have hnb60 := NB141_129.out; have hnc60 := NB129_141.out; have hcz61_0 : w50.cell? ⟨gb141, 0, none⟩ = some (.int .u64 0) := (blk_cell BK141.out 0).trans rfl; have hcz61_1 : w50.cell? ⟨gb141, 1, none⟩ = some (.int .u64 0) := (blk_cell BK141.out 1).trans rfl; have hfz61_0 := blk_frozen BK141.out 0; have hfz61_1 := blk_frozen BK141.out 1))
 have n0_ : Aside0 (((((w50.setCell ⟨gb140, 0, none⟩ (.int .u64 t136)).setCell ⟨gb140, 1, none⟩ (.int .u64 t137)).setCell ⟨gb141, 0, none⟩ (.int .u64 t138)).setCell ⟨gb141, 1, none⟩ (.int .u64 t139)).heap[gb126]? = some (.cells #[.int .u64 a0_0, .int .u64 a0_1] 24 (0, 0))) := ⟨by (with_reducible repeat (first | refine blk_drewN ?_ _ | refine blk_drew ?_ | refine blk_alloc ?_ _)); refine blk_far ?_ NB126_141.out _; (with_reducible repeat (first | refine blk_drewN ?_ _ | refine blk_drew ?_ | refine blk_alloc ?_ _)); refine blk_far ?_ NB126_141.out _; (with_reducible repeat (first | refine blk_drewN ?_ _ | refine blk_drew ?_ | refine blk_alloc ?_ _)); refine blk_far ?_ NB126_140.out _; (with_reducible repeat (first | refine blk_drewN ?_ _ | refine blk_drew ?_ | refine blk_alloc ?_ _)); refine blk_far ?_ NB126_140.out _; (with_reducible repeat (first | refine blk_drewN ?_ _ | refine blk_drew ?_ | refine blk_alloc ?_ _)); exact BK126.out⟩
 have n1_ : Aside0 (((((w50.setCell ⟨gb140, 0, none⟩ (.int .u64 t136)).setCell ⟨gb140, 1, none⟩ (.int .u64 t137)).setCell ⟨gb141, 0, none⟩ (.int .u64 t138)).setCell ⟨gb141, 1, none⟩ (.int .u64 t139)).heap[gb127]? = some (.cells #[.int .u64 a1_0, .int .u64 a1_1] 24 (0, 0))) := ⟨by (with_reducible repeat (first | refine blk_drewN ?_ _ | refine blk_drew ?_ | refine blk_alloc ?_ _)); refine blk_far ?_ NB127_141.out _; (with_reducible repeat (first | refine blk_drewN ?_ _ | refine blk_drew ?_ | refine blk_alloc ?_ _)); refine blk_far ?_ NB127_141.out _; (with_reducible repeat (first | refine blk_drewN ?_ _ | refine blk_drew ?_ | refine blk_alloc ?_ _)); refine blk_far ?_ NB127_140.out _; (with_reducible repeat (first | refine blk_drewN ?_ _ | refine blk_drew ?_ | refine blk_alloc ?_ _)); refine blk_far ?_ NB127_140.out _; (with_reducible repeat (first | refine blk_drewN ?_ _ | refine blk_drew ?_ | refine blk_alloc ?_ _)); exact BK127.out⟩
 have n2_ : Aside0 (((((w50.setCell ⟨gb140, 0, none⟩ (.int .u64 t136)).setCell ⟨gb140, 1, none⟩ (.int .u64 t137)).setCell ⟨gb141, 0, none⟩ (.int .u64 t138)).setCell ⟨gb141, 1, none⟩ (.int .u64 t139)).heap[gb128]? = some (.cells #[.int .u64 0, .int .u64 0] 24 (0, 0))) := ⟨by (with_reducible repeat (first | refine blk_drewN ?_ _ | refine blk_drew ?_ | refine blk_alloc ?_ _)); refine blk_far ?_ NB128_141.out _; (with_reducible repeat (first | refine blk_drewN ?_ _ | refine blk_drew ?_ | refine blk_alloc ?_ _)); refine blk_far ?_ NB128_141.out _; (with_reducible repeat (first | refine blk_drewN ?_ _ | refine blk_drew ?_ | refine blk_alloc ?_ _)); refine blk_far ?_ NB128_140.out _; (with_reducible repeat (first | refine blk_drewN ?_ _ | refine blk_drew ?_ | refine blk_alloc ?_ _)); refine blk_far ?_ NB128_140.out _; (with_reducible repeat (first | refine blk_drewN ?_ _ | refine blk_drew ?_ | refine blk_alloc ?_ _)); exact BK128.out⟩
 have n3_ : Aside0 (((((w50.setCell ⟨gb140, 0, none⟩ (.int .u64 t136)).setCell ⟨gb140, 1, none⟩ (.int .u64 t137)).setCell ⟨gb141, 0, none⟩ (.int .u64 t138)).setCell ⟨gb141, 1, none⟩ (.int .u64 t139)).heap[gb129]? = some (.cells #[.int .u64 0, .int .u64 0] 24 (0, 0))) := ⟨by (with_reducible repeat (first | refine blk_drewN ?_ _ | refine blk_drew ?_ | refine blk_alloc ?_ _)); refine blk_far ?_ NB129_141.out _; (with_reducible repeat (first | refine blk_drewN ?_ _ | refine blk_drew ?_ | refine blk_alloc ?_ _)); refine blk_far ?_ NB129_141.out _; (with_reducible repeat (first | refine blk_drewN ?_ _ | refine blk_drew ?_ | refine blk_alloc ?_ _)); refine blk_far ?_ NB129_140.out _; (with_reducible repeat (first | refine blk_drewN ?_ _ | refine blk_drew ?_ | refine blk_alloc ?_ _)); refine blk_far ?_ NB129_140.out _; (with_reducible repeat (first | refine blk_drewN ?_ _ | refine blk_drew ?_ | refine blk_alloc ?_ _)); exact BK129.out⟩
 have n4_ : Aside0 (((((w50.setCell ⟨gb140, 0, none⟩ (.int .u64 t136)).setCell ⟨gb140, 1, none⟩ (.int .u64 t137)).setCell ⟨gb141, 0, none⟩ (.int .u64 t138)).setCell ⟨gb141, 1, none⟩ (.int .u64 t139)).heap[gb140]? = some (.cells #[.int .u64 t136, .int .u64 t137] 24 (0, 0))) := ⟨by (with_reducible repeat (first | refine blk_drewN ?_ _ | refine blk_drew ?_ | refine blk_alloc ?_ _)); refine blk_far ?_ NB140_141.out _; (with_reducible repeat (first | refine blk_drewN ?_ _ | refine blk_drew ?_ | refine blk_alloc ?_ _)); refine blk_far ?_ NB140_141.out _; (with_reducible repeat (first | refine blk_drewN ?_ _ | refine blk_drew ?_ | refine blk_alloc ?_ _)); refine blk_put (cs := #[.int .u64 t136, .int .u64 0]) ?_ 1 _ rfl; (with_reducible repeat (first | refine blk_drewN ?_ _ | refine blk_drew ?_ | refine blk_alloc ?_ _)); refine blk_put (cs := #[.int .u64 0, .int .u64 0]) ?_ 0 _ rfl; (with_reducible repeat (first | refine blk_drewN ?_ _ | refine blk_drew ?_ | refine blk_alloc ?_ _)); exact BK140.out⟩
 have n5_ : Aside0 (((((w50.setCell ⟨gb140, 0, none⟩ (.int .u64 t136)).setCell ⟨gb140, 1, none⟩ (.int .u64 t137)).setCell ⟨gb141, 0, none⟩ (.int .u64 t138)).setCell ⟨gb141, 1, none⟩ (.int .u64 t139)).heap[gb141]? = some (.cells #[.int .u64 t138, .int .u64 t139] 24 (0, 0))) := ⟨by (with_reducible repeat (first | refine blk_drewN ?_ _ | refine blk_drew ?_ | refine blk_alloc ?_ _)); refine blk_put (cs := #[.int .u64 t138, .int .u64 0]) ?_ 1 _ rfl; (with_reducible repeat (first | refine blk_drewN ?_ _ | refine blk_drew ?_ | refine blk_alloc ?_ _)); refine blk_put (cs := #[.int .u64 0, .int .u64 0]) ?_ 0 _ rfl; (with_reducible repeat (first | refine blk_drewN ?_ _ | refine blk_drew ?_ | refine blk_alloc ?_ _)); refine blk_far ?_ NB141_140.out _; (with_reducible repeat (first | refine blk_drewN ?_ _ | refine blk_drew ?_ | refine blk_alloc ?_ _)); refine blk_far ?_ NB141_140.out _; (with_reducible repeat (first | refine blk_drewN ?_ _ | refine blk_drew ?_ | refine blk_alloc ?_ _)); exact BK141.out⟩
 have n6_ : Aside0 (Below w.heap.size w ((((w50.setCell ⟨gb140, 0, none⟩ (.int .u64 t136)).setCell ⟨gb140, 1, none⟩ (.int .u64 t137)).setCell ⟨gb141, 0, none⟩ (.int .u64 t138)).setCell ⟨gb141, 1, none⟩ (.int .u64 t139))) := ⟨by repeat (first | (with_reducible first | exact HB.out | apply below_alloc | apply pw_below_drewN | apply below_drew1 | refine below_set ?_ GE126.out | refine below_set ?_ GE127.out | refine below_set ?_ GE128.out | refine below_set ?_ GE129.out | refine below_set ?_ GE140.out | refine below_set ?_ GE141.out) | exact HB.out)⟩
 (try clear BK126)
 (try clear BK127)
 (try clear BK128)
 (try clear BK129)
 (try clear BK140)
 (try clear BK141)
 (try clear HB)
 generalize ((((w50.setCell ⟨gb140, 0, none⟩ (.int .u64 t136)).setCell ⟨gb140, 1, none⟩ (.int .u64 t137)).setCell ⟨gb141, 0, none⟩ (.int .u64 t138)).setCell ⟨gb141, 1, none⟩ (.int .u64 t139)) = w62 at n0_ n1_ n2_ n3_ n4_ n5_ n6_ ⊢
 have BK126 := n0_
 have BK127 := n1_
 have BK128 := n2_
 have BK129 := n3_
 have BK140 := n4_
 have BK141 := n5_
 have HB := n6_
 clear n0_ n1_ n2_ n3_ n4_ n5_ n6_
 have n0_ := Aside0.mk (blk_drew BK126.out)
 have n1_ := Aside0.mk (blk_drew BK127.out)
 have n2_ := Aside0.mk (blk_drew BK128.out)
 have n3_ := Aside0.mk (blk_drew BK129.out)
 have n4_ := Aside0.mk (blk_drew BK140.out)
 have n5_ := Aside0.mk (blk_drew BK141.out)
 have n6_ := Aside0.mk (below_drew1 HB.out)
 clear BK126 BK127 BK128 BK129 BK140 BK141 HB
 have BK126 := n0_
 have BK127 := n1_
 have BK128 := n2_
 have BK129 := n3_
 have BK140 := n4_
 have BK141 := n5_
 have HB := n6_
 clear n0_ n1_ n2_ n3_ n4_ n5_ n6_
 refine start_ (n := 5) (S := fun w' => w'.cell? ⟨gb140, 0, none⟩ = some (.int .u64 t136) ∧ w'.cell? ⟨gb140, 1, none⟩ = some (.int .u64 t137) ∧ w'.cell? ⟨gb141, 0, none⟩ = some (.int .u64 t138) ∧ w'.cell? ⟨gb141, 1, none⟩ = some (.int .u64 t139)) (ds := []) #[false, false, false, false, false] (by kernel_rfl) rfl rfl ⟨(blk_cell BK140.out 0).trans rfl, (blk_cell BK140.out 1).trans rfl, (blk_cell BK141.out 0).trans rfl, (blk_cell BK141.out 1).trans rfl⟩ (fun hHeld => ?_)
 generalize w62.drew = w63 at BK126 BK127 BK128 BK129 BK140 BK141 HB hHeld ⊢
 refine take_ (i := 0) (N := some 28) (v := ?_) (a' := ?_) #[true, false, false, false, false] rfl rfl (by kernel_rfl) (fun _ _ _ h => h) (Or.inl ⟨by rfl, ?_⟩) hHeld ?_ ?_
 rotate_left
 ·
  rintro w' ⟨s0, s1, s2, s3⟩
  go_simp
  with_reducible rfl
 rotate_left
 ·
  simp only [Act.put, List.setIfInBounds_toArray, List.set_cons_zero, List.set_cons_succ, i64_w, i32_w]
  rfl
 refine take_ (i := 1) (N := some 29) (v := ?_) (a' := ?_) #[true, true, false, false, false] rfl rfl (by kernel_rfl) (fun _ _ _ h => h) (Or.inl ⟨by rfl, ?_⟩) hHeld ?_ ?_
 rotate_left
 ·
  rintro w' ⟨s0, s1, s2, s3⟩
  go_simp
  with_reducible rfl
 rotate_left
 ·
  simp only [Act.put, List.setIfInBounds_toArray, List.set_cons_zero, List.set_cons_succ, i64_w, i32_w]
  rfl
 refine one_ (i := 2) (N := none) #[true, true, true, false, false] rfl rfl (by kernel_rfl) (by decide) (fun K hK => ?_)
 have hs64 : w63.cell? ⟨gb128, 0, none⟩ = some (.int .u64 0) := (blk_cell BK128.out 0).trans rfl
 have hfs64 := blk_frozen BK128.out 0
 have hns64_0 := NB126_128.out
 have hns64_1 := NB127_128.out
 have hns64_3 := NB129_128.out
 have hns64_4 := NB140_128.out
 have hns64_5 := NB141_128.out
 have hms64_0 := NB128_126.out
 have hms64_1 := NB128_127.out
 have hms64_3 := NB128_129.out
 have hms64_4 := NB128_140.out
 have hms64_5 := NB128_141.out
 have hs65 : w63.cell? ⟨gb128, 1, none⟩ = some (.int .u64 0) := (blk_cell BK128.out 1).trans rfl
 have hfs65 := blk_frozen BK128.out 1
 have hns65_0 := NB126_128.out
 have hns65_1 := NB127_128.out
 have hns65_3 := NB129_128.out
 have hns65_4 := NB140_128.out
 have hns65_5 := NB141_128.out
 have hms65_0 := NB128_126.out
 have hms65_1 := NB128_127.out
 have hms65_3 := NB128_129.out
 have hms65_4 := NB128_140.out
 have hms65_5 := NB128_141.out
 refine skip_ (w1 := ?_) (by rfl) rfl ?_ ?_
 rotate_left
 ·
  go_simp
  rfl
 refine hK.out _ _ ⟨((cell_far (p := ⟨gb128, _, none⟩) NB140_128.out _).trans (((cell_far (p := ⟨gb128, _, none⟩) NB140_128.out _).trans (hHeld.1)))), ((cell_far (p := ⟨gb128, _, none⟩) NB140_128.out _).trans (((cell_far (p := ⟨gb128, _, none⟩) NB140_128.out _).trans (hHeld.2.1)))), ((cell_far (p := ⟨gb128, _, none⟩) NB141_128.out _).trans (((cell_far (p := ⟨gb128, _, none⟩) NB141_128.out _).trans (hHeld.2.2.1)))), ((cell_far (p := ⟨gb128, _, none⟩) NB141_128.out _).trans (((cell_far (p := ⟨gb128, _, none⟩) NB141_128.out _).trans (hHeld.2.2.2))))⟩ (fun hHeld => ?_)
 clear hK K
 refine one_ (i := 3) (N := none) #[true, true, true, true, false] rfl rfl (by kernel_rfl) (by decide) (fun K hK => ?_)
 have hs66 : w63.cell? ⟨gb129, 0, none⟩ = some (.int .u64 0) := (blk_cell BK129.out 0).trans rfl
 have hfs66 := blk_frozen BK129.out 0
 have hns66_0 := NB126_129.out
 have hns66_1 := NB127_129.out
 have hns66_2 := NB128_129.out
 have hns66_4 := NB140_129.out
 have hns66_5 := NB141_129.out
 have hms66_0 := NB129_126.out
 have hms66_1 := NB129_127.out
 have hms66_2 := NB129_128.out
 have hms66_4 := NB129_140.out
 have hms66_5 := NB129_141.out
 have hs67 : w63.cell? ⟨gb129, 1, none⟩ = some (.int .u64 0) := (blk_cell BK129.out 1).trans rfl
 have hfs67 := blk_frozen BK129.out 1
 have hns67_0 := NB126_129.out
 have hns67_1 := NB127_129.out
 have hns67_2 := NB128_129.out
 have hns67_4 := NB140_129.out
 have hns67_5 := NB141_129.out
 have hms67_0 := NB129_126.out
 have hms67_1 := NB129_127.out
 have hms67_2 := NB129_128.out
 have hms67_4 := NB129_140.out
 have hms67_5 := NB129_141.out
 refine skip_ (w1 := ?_) (by rfl) rfl ?_ ?_
 rotate_left
 ·
  go_simp
  rfl
 refine hK.out _ _ ⟨((cell_far (p := ⟨gb129, _, none⟩) NB140_129.out _).trans (((cell_far (p := ⟨gb129, _, none⟩) NB140_129.out _).trans (hHeld.1)))), ((cell_far (p := ⟨gb129, _, none⟩) NB140_129.out _).trans (((cell_far (p := ⟨gb129, _, none⟩) NB140_129.out _).trans (hHeld.2.1)))), ((cell_far (p := ⟨gb129, _, none⟩) NB141_129.out _).trans (((cell_far (p := ⟨gb129, _, none⟩) NB141_129.out _).trans (hHeld.2.2.1)))), ((cell_far (p := ⟨gb129, _, none⟩) NB141_129.out _).trans (((cell_far (p := ⟨gb129, _, none⟩) NB141_129.out _).trans (hHeld.2.2.2))))⟩ (fun hHeld => ?_)
 clear hK K
 refine pure_ (i := 4) (N := some 6) (v := ?_) (a' := ?_) #[true, true, true, true, true] rfl rfl (by kernel_rfl) (fun _ _ _ h => h) (Or.inl ⟨by rfl, ?_⟩) ?_ ?_
 rotate_left
 ·
  intro w'
  go_simp
  with_reducible rfl
 rotate_left
 ·
  simp only [Act.put, List.setIfInBounds_toArray, List.set_cons_zero, List.set_cons_succ, i64_w, i32_w]
  rfl
 refine done_ (by kernel_rfl) ?_
 try go_wp2
 refine bodyPost_ret (results_list (rs := [.cell 4 24, .cell 5 24, .tmp 6]) rfl (by simp) (.cell gb128 24 #[.int .u64 t136, .int .u64 t137] (0, 0) _ rfl (by (with_reducible repeat (first | refine blk_drewN ?_ _ | refine blk_drew ?_ | refine blk_alloc ?_ _)); refine blk_far ?_ NB128_129.out _; (with_reducible repeat (first | refine blk_drewN ?_ _ | refine blk_drew ?_ | refine blk_alloc ?_ _)); refine blk_far ?_ NB128_129.out _; (with_reducible repeat (first | refine blk_drewN ?_ _ | refine blk_drew ?_ | refine blk_alloc ?_ _)); refine blk_put (cs := #[.int .u64 t136, .int .u64 0]) ?_ 1 _ rfl; (with_reducible repeat (first | refine blk_drewN ?_ _ | refine blk_drew ?_ | refine blk_alloc ?_ _)); refine blk_put (cs := #[.int .u64 0, .int .u64 0]) ?_ 0 _ rfl; (with_reducible repeat (first | refine blk_drewN ?_ _ | refine blk_drew ?_ | refine blk_alloc ?_ _)); exact BK128.out) Try.underlying24 rfl (by kernel_rfl) (.cell gb129 24 #[.int .u64 t138, .int .u64 t139] (0, 0) _ rfl (by (with_reducible repeat (first | refine blk_drewN ?_ _ | refine blk_drew ?_ | refine blk_alloc ?_ _)); refine blk_put (cs := #[.int .u64 t138, .int .u64 0]) ?_ 1 _ rfl; (with_reducible repeat (first | refine blk_drewN ?_ _ | refine blk_drew ?_ | refine blk_alloc ?_ _)); refine blk_put (cs := #[.int .u64 0, .int .u64 0]) ?_ 0 _ rfl; (with_reducible repeat (first | refine blk_drewN ?_ _ | refine blk_drew ?_ | refine blk_alloc ?_ _)); refine blk_far ?_ NB129_128.out _; (with_reducible repeat (first | refine blk_drewN ?_ _ | refine blk_drew ?_ | refine blk_alloc ?_ _)); refine blk_far ?_ NB129_128.out _; (with_reducible repeat (first | refine blk_drewN ?_ _ | refine blk_drew ?_ | refine blk_alloc ?_ _)); exact BK129.out) Try.underlying24 rfl (by kernel_rfl) (.tmp .nil)))) rfl ?_
 exact ⟨by first | rfl | (simp [errW_none, errW_some] <;> rfl) | (simp [*, errW_none, errW_some] <;> rfl), by repeat (first | (with_reducible first | exact HB.out | apply below_alloc | apply pw_below_drewN | apply below_drew1 | refine below_set ?_ GE126.out | refine below_set ?_ GE127.out | refine below_set ?_ GE128.out | refine below_set ?_ GE129.out | refine below_set ?_ GE140.out | refine below_set ?_ GE141.out) | exact HB.out)⟩
end Go.Proofs.Ytbpcehbcbcojiaa.D
