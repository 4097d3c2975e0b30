import Derived.Test.YtbpcehbcbcojiaaEx0
import Derived.Test.YtbpcehbcbcojiaaEx1
import Derived.Test.YtbpcehbcbcojiaaEx4
namespace Go.Proofs.Ytbpcehbcbcojiaa.E
open Go.Proofs.Ytbpcehbcbcojiaa.Q
open Go.RowKit Go.Proofs.YtbpcehbcbcojiaaW.PrintWords Go.Proofs.YtbpcehbcbcojiaaW.PrintLast Go.Proofs.YtbpcehbcbcojiaaW.PrintMore
attribute [local go_sem] max2_int min2_int max_two min_two max_three min_three max_four min_four
set_option linter.unusedVariables false
set_option linter.unusedSimpArgs false
attribute [local go_sem high] eqA24
def samphireref01_Div.l0 : Nat → Int → Int → Int → Int → Int → Int → Int → Int → Int → Option (Int × Int × Int × Int × Bool)
 | 0, _, _, _, _, _, _, _, _, _ => none
 | k + 1, x10, x155000, x155001, x156000, x156001, x160000, x160001, x161000, x161001 => if x10 ≥ 0 then ((samphireref01_bit.f x155000 x155001 x10).bind fun t161 => ((samphireref01_Add.f x160000 x160001 x160000 x160001).bind fun bt162 => ((samphireref01_halfUp.f x156000 x156001 t161).bind fun bt165 => ((samphireref01_Cmp.f x161000 x161001 bt165.1 bt165.2).bind fun t167 => (if t167 ≥ 0 then ((samphireref01_Sub.f x156000 x156001 x161000 x161001).bind fun bt168 => ((samphireref01_Add.f x161000 x161001 0 t161).bind fun bt172 => ((samphireref01_Sub.f bt172.1 bt172.2.1 bt168.1 bt168.2.1).bind fun bt175 => ((samphireref01_Add.f bt162.1 bt162.2.1 0 1).bind fun bt178 => (samphireref01_Div.l0 k (wrap64 (x10 - 1)) x155000 x155001 x156000 x156001 bt178.1 bt178.2.1 bt175.1 bt175.2.1))))) else ((samphireref01_Add.f x161000 x161001 x161000 x161001).bind fun bt181 => ((samphireref01_Add.f bt181.1 bt181.2.1 0 t161).bind fun bt184 => (samphireref01_Div.l0 k (wrap64 (x10 - 1)) x155000 x155001 x156000 x156001 bt162.1 bt162.2.1 bt184.1 bt184.2.1)))))))) else (some (x160000, x160001, x161000, x161001, true))
def samphireref01_Div.f (k : Nat) (a0_0 : Int) (a0_1 : Int) (a1_0 : Int) (a1_1 : Int) : Option (Int × Int × Int × Int × Bool) := if (a1_0 == 0 && (a1_1 == 0)) = true then (some (0, 0, 0, 0, false)) else (samphireref01_Div.l0 k 127 a0_0 a0_1 a1_0 a1_1 0 0 0 0)
set_option maxHeartbeats 8000000 in
set_option maxRecDepth 100000 in
theorem samphireref01_Div.calls (k : Nat) (a0_0 : Int) (a0_1 : Int) (a1_0 : Int) (a1_1 : Int) (r1 : Int) (r2 : Int) (r3 : Int) (r4 : Int) (r5 : Bool) (w : World) (h : samphireref01_Div.f k a0_0 a0_1 a1_0 a1_1 = some (r1, r2, r3, r4, r5)) :
  Calls Try.prog 27 #[.agg #[.int .u64 a0_0, .int .u64 a0_1], .agg #[.int .u64 a1_0, .int .u64 a1_1]] w fun e w' => e = .returned (.tuple #[.agg #[.int .u64 r1, .int .u64 r2], .agg #[.int .u64 r3, .int .u64 r4], .bool r5]) ∧ Below w.heap.size w w' := by
 have hu24 := Try.underlying24
 have HB := Aside0.mk (Below.refl w.heap.size w)
 have H : (if (a1_0 == 0 && (a1_1 == 0)) = true then (some (0, 0, 0, 0, false)) else (samphireref01_Div.l0 k 127 a0_0 a0_1 a1_0 a1_1 0 0 0 0)) = some (r1, r2, r3, r4, r5) := h
 clear h
 by_cases c3 : (a1_0 == 0 && (a1_1 == 0)) = true
 ·
  rw [if_pos c3] at H
  have c3b0 : (a1_0 == 0 && (a1_1 == 0)) = true := c3
  (try (have c3b1 : decide (a1_0 = 0 && (a1_1 == 0)) = true := by simpa using c3))
  (try (have c3b2 : (a1_0 == 0 && (a1_1 == 0)) = true := by simpa using c3))
  clear c3
  simp only [Option.some.injEq, Prod.mk.injEq] at H
  obtain ⟨rfl, rfl, rfl, rfl, rfl⟩ := H
  go_enter Try.func27, Try.ntmps27
  try go_wp2_with (first | ((with_reducible refine gate_dst (N := 2) rfl ?_); refine box_event ?hg (N := 2) ?hd (cs := #[.int .u64 a0_0, .int .u64 a0_1]) (t := 24) ?hr ?_; (case hd => rfl); (case hg => rfl); (case hr => first | (go_simp; done) | (go_simp; rfl)); intro gb154 hg w4 hbox hb; have n0_ := Aside0.mk (below_step (bW HB.out) hb); have n1_ := Aside0.mk (hbox); have n2_ := Aside0.mk ((by rw [hg]; exact (below_size (bW HB.out)) : w.heap.size ≤ gb154)); have n3_ := Aside0.mk ((by rw [hg]; exact (below_size (bW HB.out)) : w.heap.size ≤ gb154)); clear HB; have HB := n0_; have BK154 := n1_; have GW154 := n2_; have GE154 := n3_; clear n0_ n1_ n2_ n3_ hb hbox hg) | ((with_reducible refine gate_dst (N := 3) rfl ?_); refine box_event ?hg (N := 3) ?hd (cs := #[.int .u64 a1_0, .int .u64 a1_1]) (t := 24) ?hr ?_; (case hd => rfl); (case hg => rfl); (case hr => first | (go_simp; done) | (go_simp; rfl)); intro gb155 hg w5 hbox hb; have n0_ := Aside0.mk (blk_below (bT BK154.out) hb); have n1_ := Aside0.mk (below_step (bW HB.out) hb); have n2_ := Aside0.mk (hbox); have n3_ := Aside0.mk ((by rw [hg]; exact (below_size (bW HB.out)) : w.heap.size ≤ gb155)); have n4_ := Aside0.mk ((by rw [hg]; exact (below_size (bW HB.out)) : w.heap.size ≤ gb155)); have n5_ := Aside0.mk ((by rw [hg]; exact Nat.ne_of_lt (blk_lt (bT BK154.out)) : gb154 ≠ gb155)); have n6_ := Aside0.mk ((by rw [hg]; exact Nat.ne_of_gt (blk_lt (bT BK154.out)) : gb155 ≠ gb154)); clear BK154 HB; have BK154 := n0_; have HB := n1_; have BK155 := n2_; have GW155 := n3_; have GE155 := n4_; have NB154_155 := n5_; have NB155_154 := n6_; clear n0_ n1_ n2_ n3_ n4_ n5_ n6_ hb hbox hg) | ((with_reducible refine gate_dst (N := 4) rfl ?_); refine box_event ?hg (N := 4) ?hd (cs := #[.int .u64 0, .int .u64 0]) (t := 24) ?hr ?_; (case hd => rfl); (case hg => rfl); (case hr => first | (go_simp; done) | (go_simp; rfl)); intro gb156 hg w6 hbox hb; have n0_ := Aside0.mk (blk_below (bT BK154.out) hb); have n1_ := Aside0.mk (blk_below (bT BK155.out) hb); have n2_ := Aside0.mk (below_step (bW HB.out) hb); have n3_ := Aside0.mk (hbox); have n4_ := Aside0.mk ((by rw [hg]; exact (below_size (bW HB.out)) : w.heap.size ≤ gb156)); have n5_ := Aside0.mk ((by rw [hg]; exact (below_size (bW HB.out)) : w.heap.size ≤ gb156)); have n6_ := Aside0.mk ((by rw [hg]; exact Nat.ne_of_lt (blk_lt (bT BK154.out)) : gb154 ≠ gb156)); have n7_ := Aside0.mk ((by rw [hg]; exact Nat.ne_of_gt (blk_lt (bT BK154.out)) : gb156 ≠ gb154)); have n8_ := Aside0.mk ((by rw [hg]; exact Nat.ne_of_lt (blk_lt (bT BK155.out)) : gb155 ≠ gb156)); have n9_ := Aside0.mk ((by rw [hg]; exact Nat.ne_of_gt (blk_lt (bT BK155.out)) : gb156 ≠ gb155)); clear BK154 BK155 HB; have BK154 := n0_; have BK155 := n1_; have HB := n2_; have BK156 := n3_; have GW156 := n4_; have GE156 := n5_; have NB154_156 := n6_; have NB156_154 := n7_; have NB155_156 := n8_; have NB156_155 := n9_; clear n0_ n1_ n2_ n3_ n4_ n5_ n6_ n7_ n8_ n9_ hb hbox hg) | ((with_reducible refine gate_dst (N := 5) rfl ?_); refine box_event ?hg (N := 5) ?hd (cs := #[.int .u64 0, .int .u64 0]) (t := 24) ?hr ?_; (case hd => rfl); (case hg => rfl); (case hr => first | (go_simp; done) | (go_simp; rfl)); intro gb157 hg w7 hbox hb; have n0_ := Aside0.mk (blk_below (bT BK154.out) hb); have n1_ := Aside0.mk (blk_below (bT BK155.out) hb); have n2_ := Aside0.mk (blk_below (bT BK156.out) hb); have n3_ := Aside0.mk (below_step (bW HB.out) hb); have n4_ := Aside0.mk (hbox); have n5_ := Aside0.mk ((by rw [hg]; exact (below_size (bW HB.out)) : w.heap.size ≤ gb157)); have n6_ := Aside0.mk ((by rw [hg]; exact (below_size (bW HB.out)) : w.heap.size ≤ gb157)); have n7_ := Aside0.mk ((by rw [hg]; exact Nat.ne_of_lt (blk_lt (bT BK154.out)) : gb154 ≠ gb157)); have n8_ := Aside0.mk ((by rw [hg]; exact Nat.ne_of_gt (blk_lt (bT BK154.out)) : gb157 ≠ gb154)); have n9_ := Aside0.mk ((by rw [hg]; exact Nat.ne_of_lt (blk_lt (bT BK155.out)) : gb155 ≠ gb157)); have n10_ := Aside0.mk ((by rw [hg]; exact Nat.ne_of_gt (blk_lt (bT BK155.out)) : gb157 ≠ gb155)); have n11_ := Aside0.mk ((by rw [hg]; exact Nat.ne_of_lt (blk_lt (bT BK156.out)) : gb156 ≠ gb157)); have n12_ := Aside0.mk ((by rw [hg]; exact Nat.ne_of_gt (blk_lt (bT BK156.out)) : gb157 ≠ gb156)); clear BK154 BK155 BK156 HB; have BK154 := n0_; have BK155 := n1_; have BK156 := n2_; have HB := n3_; have BK157 := n4_; have GW157 := n5_; have GE157 := n6_; have NB154_157 := n7_; have NB157_154 := n8_; have NB155_157 := n9_; have NB157_155 := n10_; have NB156_157 := n11_; have NB157_156 := n12_; clear n0_ n1_ n2_ n3_ n4_ n5_ n6_ n7_ n8_ n9_ n10_ n11_ n12_ hb hbox hg) | ((with_reducible refine gate_dst (N := 7) rfl ?_); refine box_event ?hg (N := 7) ?hd (cs := #[.int .u64 0, .int .u64 0]) (t := 24) ?hr ?_; (case hd => rfl); (case hg => rfl); (case hr => first | (go_simp; done) | (go_simp; rfl)); intro gb158 hg w8 hbox hb; have n0_ := Aside0.mk (blk_below (bT BK154.out) hb); have n1_ := Aside0.mk (blk_below (bT BK155.out) hb); have n2_ := Aside0.mk (blk_below (bT BK156.out) hb); have n3_ := Aside0.mk (blk_below (bT BK157.out) hb); have n4_ := Aside0.mk (below_step (bW HB.out) hb); have n5_ := Aside0.mk (hbox); have n6_ := Aside0.mk ((by rw [hg]; exact (below_size (bW HB.out)) : w.heap.size ≤ gb158)); have n7_ := Aside0.mk ((by rw [hg]; exact (below_size (bW HB.out)) : w.heap.size ≤ gb158)); have n8_ := Aside0.mk ((by rw [hg]; exact Nat.ne_of_lt (blk_lt (bT BK154.out)) : gb154 ≠ gb158)); have n9_ := Aside0.mk ((by rw [hg]; exact Nat.ne_of_gt (blk_lt (bT BK154.out)) : gb158 ≠ gb154)); have n10_ := Aside0.mk ((by rw [hg]; exact Nat.ne_of_lt (blk_lt (bT BK155.out)) : gb155 ≠ gb158)); have n11_ := Aside0.mk ((by rw [hg]; exact Nat.ne_of_gt (blk_lt (bT BK155.out)) : gb158 ≠ gb155)); have n12_ := Aside0.mk ((by rw [hg]; exact Nat.ne_of_lt (blk_lt (bT BK156.out)) : gb156 ≠ gb158)); have n13_ := Aside0.mk ((by rw [hg]; exact Nat.ne_of_gt (blk_lt (bT BK156.out)) : gb158 ≠ gb156)); have n14_ := Aside0.mk ((by rw [hg]; exact Nat.ne_of_lt (blk_lt (bT BK157.out)) : gb157 ≠ gb158)); have n15_ := Aside0.mk ((by rw [hg]; exact Nat.ne_of_gt (blk_lt (bT BK157.out)) : gb158 ≠ gb157)); clear BK154 BK155 BK156 BK157 HB; have BK154 := n0_; have BK155 := n1_; have BK156 := n2_; have BK157 := n3_; have HB := n4_; have BK158 := n5_; have GW158 := n6_; have GE158 := n7_; have NB154_158 := n8_; have NB158_154 := n9_; have NB155_158 := n10_; have NB158_155 := n11_; have NB156_158 := n12_; have NB158_156 := n13_; have NB157_158 := n14_; have NB158_157 := n15_; clear n0_ n1_ n2_ n3_ n4_ n5_ n6_ n7_ n8_ n9_ n10_ n11_ n12_ n13_ n14_ n15_ hb hbox hg; have hnb9 := NB158_154.out; have hnc9 := NB154_158.out; have hnb10 := NB158_155.out; have hnc10 := NB155_158.out; have hnb11 := NB158_156.out; have hnc11 := NB156_158.out; have hnb12 := NB158_157.out; have hnc12 := NB157_158.out; have hcz13_0 : w8.cell? ⟨gb158, 0, none⟩ = some (.int .u64 0) := (blk_cell BK158.out 0).trans rfl; have hcz13_1 : w8.cell? ⟨gb158, 1, none⟩ = some (.int .u64 0) := (blk_cell BK158.out 1).trans rfl; have hfz13_0 := blk_frozen BK158.out 0; have hfz13_1 := blk_frozen BK158.out 1; have hnb14 := NB155_154.out; have hnc14 := NB154_155.out; have hnb15 := NB155_156.out; have hnc15 := NB156_155.out; have hnb16 := NB155_157.out; have hnc16 := NB157_155.out; have hcz17_0 : w8.cell? ⟨gb155, 0, none⟩ = some (.int .u64 a1_0) := (blk_cell BK155.out 0).trans rfl; have hcz17_1 : w8.cell? ⟨gb155, 1, none⟩ = some (.int .u64 a1_1) := (blk_cell BK155.out 1).trans rfl; have hfz17_0 := blk_frozen BK155.out 0; have hfz17_1 := blk_frozen BK155.out 1))
  have n0_ : Aside0 (((w8.setCell ⟨gb158, 0, none⟩ (.int .u64 0)).setCell ⟨gb158, 1, none⟩ (.int .u64 0)).heap[gb154]? = some (.cells #[.int .u64 a0_0, .int .u64 a0_1] 24 (0, 0))) := ⟨by (with_reducible repeat (first | refine blk_drewN ?_ _ | refine blk_drew ?_ | refine blk_alloc ?_ _)); refine blk_far ?_ NB154_158.out _; (with_reducible repeat (first | refine blk_drewN ?_ _ | refine blk_drew ?_ | refine blk_alloc ?_ _)); refine blk_far ?_ NB154_158.out _; (with_reducible repeat (first | refine blk_drewN ?_ _ | refine blk_drew ?_ | refine blk_alloc ?_ _)); exact BK154.out⟩
  have n1_ : Aside0 (((w8.setCell ⟨gb158, 0, none⟩ (.int .u64 0)).setCell ⟨gb158, 1, none⟩ (.int .u64 0)).heap[gb155]? = some (.cells #[.int .u64 a1_0, .int .u64 a1_1] 24 (0, 0))) := ⟨by (with_reducible repeat (first | refine blk_drewN ?_ _ | refine blk_drew ?_ | refine blk_alloc ?_ _)); refine blk_far ?_ NB155_158.out _; (with_reducible repeat (first | refine blk_drewN ?_ _ | refine blk_drew ?_ | refine blk_alloc ?_ _)); refine blk_far ?_ NB155_158.out _; (with_reducible repeat (first | refine blk_drewN ?_ _ | refine blk_drew ?_ | refine blk_alloc ?_ _)); exact BK155.out⟩
  have n2_ : Aside0 (((w8.setCell ⟨gb158, 0, none⟩ (.int .u64 0)).setCell ⟨gb158, 1, none⟩ (.int .u64 0)).heap[gb156]? = some (.cells #[.int .u64 0, .int .u64 0] 24 (0, 0))) := ⟨by (with_reducible repeat (first | refine blk_drewN ?_ _ | refine blk_drew ?_ | refine blk_alloc ?_ _)); refine blk_far ?_ NB156_158.out _; (with_reducible repeat (first | refine blk_drewN ?_ _ | refine blk_drew ?_ | refine blk_alloc ?_ _)); refine blk_far ?_ NB156_158.out _; (with_reducible repeat (first | refine blk_drewN ?_ _ | refine blk_drew ?_ | refine blk_alloc ?_ _)); exact BK156.out⟩
  have n3_ : Aside0 (((w8.setCell ⟨gb158, 0, none⟩ (.int .u64 0)).setCell ⟨gb158, 1, none⟩ (.int .u64 0)).heap[gb157]? = some (.cells #[.int .u64 0, .int .u64 0] 24 (0, 0))) := ⟨by (with_reducible repeat (first | refine blk_drewN ?_ _ | refine blk_drew ?_ | refine blk_alloc ?_ _)); refine blk_far ?_ NB157_158.out _; (with_reducible repeat (first | refine blk_drewN ?_ _ | refine blk_drew ?_ | refine blk_alloc ?_ _)); refine blk_far ?_ NB157_158.out _; (with_reducible repeat (first | refine blk_drewN ?_ _ | refine blk_drew ?_ | refine blk_alloc ?_ _)); exact BK157.out⟩
  have n4_ : Aside0 (((w8.setCell ⟨gb158, 0, none⟩ (.int .u64 0)).setCell ⟨gb158, 1, none⟩ (.int .u64 0)).heap[gb158]? = some (.cells #[.int .u64 0, .int .u64 0] 24 (0, 0))) := ⟨by (with_reducible repeat (first | refine blk_drewN ?_ _ | refine blk_drew ?_ | refine blk_alloc ?_ _)); refine blk_put (cs := #[.int .u64 0, .int .u64 0]) ?_ 1 _ rfl; (with_reducible repeat (first | refine blk_drewN ?_ _ | refine blk_drew ?_ | refine blk_alloc ?_ _)); refine blk_put (cs := #[.int .u64 0, .int .u64 0]) ?_ 0 _ rfl; (with_reducible repeat (first | refine blk_drewN ?_ _ | refine blk_drew ?_ | refine blk_alloc ?_ _)); exact BK158.out⟩
  have n5_ : Aside0 (Below w.heap.size w ((w8.setCell ⟨gb158, 0, none⟩ (.int .u64 0)).setCell ⟨gb158, 1, none⟩ (.int .u64 0))) := ⟨by repeat (first | (with_reducible first | exact HB.out | apply below_alloc | apply pw_below_drewN | apply below_drew1 | refine below_set ?_ GE154.out | refine below_set ?_ GE155.out | refine below_set ?_ GE156.out | refine below_set ?_ GE157.out | refine below_set ?_ GE158.out) | exact HB.out)⟩
  (try clear BK154)
  (try clear BK155)
  (try clear BK156)
  (try clear BK157)
  (try clear BK158)
  (try clear HB)
  generalize ((w8.setCell ⟨gb158, 0, none⟩ (.int .u64 0)).setCell ⟨gb158, 1, none⟩ (.int .u64 0)) = w18 at n0_ n1_ n2_ n3_ n4_ n5_ ⊢
  have BK154 := n0_
  have BK155 := n1_
  have BK156 := n2_
  have BK157 := n3_
  have BK158 := n4_
  have HB := n5_
  clear n0_ n1_ n2_ n3_ n4_ n5_
  have n0_ := Aside0.mk (blk_drew BK154.out)
  have n1_ := Aside0.mk (blk_drew BK155.out)
  have n2_ := Aside0.mk (blk_drew BK156.out)
  have n3_ := Aside0.mk (blk_drew BK157.out)
  have n4_ := Aside0.mk (blk_drew BK158.out)
  have n5_ := Aside0.mk (below_drew1 HB.out)
  clear BK154 BK155 BK156 BK157 BK158 HB
  have BK154 := n0_
  have BK155 := n1_
  have BK156 := n2_
  have BK157 := n3_
  have BK158 := n4_
  have HB := n5_
  clear n0_ n1_ n2_ n3_ n4_ n5_
  refine start_ (n := 5) (S := fun w' => w'.cell? ⟨gb158, 0, none⟩ = some (.int .u64 0) ∧ w'.cell? ⟨gb158, 1, none⟩ = some (.int .u64 0)) (ds := []) #[false, false, false, false, false] (by kernel_rfl) rfl rfl ⟨(blk_cell BK158.out 0).trans rfl, (blk_cell BK158.out 1).trans rfl⟩ (fun hHeld => ?_)
  generalize w18.drew = w19 at BK154 BK155 BK156 BK157 BK158 HB hHeld ⊢
  refine take_ (i := 0) (N := some 18) (v := ?_) (a' := ?_) #[true, false, false, false, false] rfl rfl (by kernel_rfl) (fun _ _ _ h => h) (Or.inl ⟨by rfl, ?_⟩) hHeld ?_ ?_
  rotate_left
  ·
   rintro w' ⟨s0, s1⟩
   go_simp
   with_reducible rfl
  rotate_left
  ·
   simp only [Act.put, List.setIfInBounds_toArray, List.set_cons_zero, List.set_cons_succ, i64_w, i32_w]
   rfl
  refine take_ (i := 1) (N := some 19) (v := ?_) (a' := ?_) #[true, true, false, false, false] rfl rfl (by kernel_rfl) (fun _ _ _ h => h) (Or.inl ⟨by rfl, ?_⟩) hHeld ?_ ?_
  rotate_left
  ·
   rintro w' ⟨s0, s1⟩
   go_simp
   with_reducible rfl
  rotate_left
  ·
   simp only [Act.put, List.setIfInBounds_toArray, List.set_cons_zero, List.set_cons_succ, i64_w, i32_w]
   rfl
  refine one_ (i := 2) (N := none) #[true, true, true, false, false] rfl rfl (by kernel_rfl) (by decide) (fun K hK => ?_)
  have hs20 : w19.cell? ⟨gb156, 0, none⟩ = some (.int .u64 0) := (blk_cell BK156.out 0).trans rfl
  have hfs20 := blk_frozen BK156.out 0
  have hns20_0 := NB154_156.out
  have hns20_1 := NB155_156.out
  have hns20_3 := NB157_156.out
  have hns20_4 := NB158_156.out
  have hms20_0 := NB156_154.out
  have hms20_1 := NB156_155.out
  have hms20_3 := NB156_157.out
  have hms20_4 := NB156_158.out
  have hs21 : w19.cell? ⟨gb156, 1, none⟩ = some (.int .u64 0) := (blk_cell BK156.out 1).trans rfl
  have hfs21 := blk_frozen BK156.out 1
  have hns21_0 := NB154_156.out
  have hns21_1 := NB155_156.out
  have hns21_3 := NB157_156.out
  have hns21_4 := NB158_156.out
  have hms21_0 := NB156_154.out
  have hms21_1 := NB156_155.out
  have hms21_3 := NB156_157.out
  have hms21_4 := NB156_158.out
  refine skip_ (w1 := ?_) (by rfl) rfl ?_ ?_
  rotate_left
  ·
   go_simp
   rfl
  refine hK.out _ _ ⟨((cell_far (p := ⟨gb156, _, none⟩) NB158_156.out _).trans (((cell_far (p := ⟨gb156, _, none⟩) NB158_156.out _).trans (hHeld.1)))), ((cell_far (p := ⟨gb156, _, none⟩) NB158_156.out _).trans (((cell_far (p := ⟨gb156, _, none⟩) NB158_156.out _).trans (hHeld.2))))⟩ (fun hHeld => ?_)
  clear hK K
  refine one_ (i := 3) (N := none) #[true, true, true, true, false] rfl rfl (by kernel_rfl) (by decide) (fun K hK => ?_)
  have hs22 : w19.cell? ⟨gb157, 0, none⟩ = some (.int .u64 0) := (blk_cell BK157.out 0).trans rfl
  have hfs22 := blk_frozen BK157.out 0
  have hns22_0 := NB154_157.out
  have hns22_1 := NB155_157.out
  have hns22_2 := NB156_157.out
  have hns22_4 := NB158_157.out
  have hms22_0 := NB157_154.out
  have hms22_1 := NB157_155.out
  have hms22_2 := NB157_156.out
  have hms22_4 := NB157_158.out
  have hs23 : w19.cell? ⟨gb157, 1, none⟩ = some (.int .u64 0) := (blk_cell BK157.out 1).trans rfl
  have hfs23 := blk_frozen BK157.out 1
  have hns23_0 := NB154_157.out
  have hns23_1 := NB155_157.out
  have hns23_2 := NB156_157.out
  have hns23_4 := NB158_157.out
  have hms23_0 := NB157_154.out
  have hms23_1 := NB157_155.out
  have hms23_2 := NB157_156.out
  have hms23_4 := NB157_158.out
  refine skip_ (w1 := ?_) (by rfl) rfl ?_ ?_
  rotate_left
  ·
   go_simp
   rfl
  refine hK.out _ _ ⟨((cell_far (p := ⟨gb157, _, none⟩) NB158_157.out _).trans (((cell_far (p := ⟨gb157, _, none⟩) NB158_157.out _).trans (hHeld.1)))), ((cell_far (p := ⟨gb157, _, none⟩) NB158_157.out _).trans (((cell_far (p := ⟨gb157, _, none⟩) NB158_157.out _).trans (hHeld.2))))⟩ (fun hHeld => ?_)
  clear hK K
  refine pure_ (i := 4) (N := some 6) (v := ?_) (a' := ?_) #[true, true, true, true, true] rfl rfl (by kernel_rfl) (fun _ _ _ h => h) (Or.inl ⟨by rfl, ?_⟩) ?_ ?_
  rotate_left
  ·
   intro w'
   go_simp
   with_reducible rfl
  rotate_left
  ·
   simp only [Act.put, List.setIfInBounds_toArray, List.set_cons_zero, List.set_cons_succ, i64_w, i32_w]
   rfl
  refine done_ (by kernel_rfl) ?_
  try go_wp2
  refine bodyPost_ret (results_list (rs := [.cell 4 24, .cell 5 24, .tmp 6]) rfl (by simp) (.cell gb156 24 #[.int .u64 0, .int .u64 0] (0, 0) _ rfl (by (with_reducible repeat (first | refine blk_drewN ?_ _ | refine blk_drew ?_ | refine blk_alloc ?_ _)); refine blk_far ?_ NB156_157.out _; (with_reducible repeat (first | refine blk_drewN ?_ _ | refine blk_drew ?_ | refine blk_alloc ?_ _)); refine blk_far ?_ NB156_157.out _; (with_reducible repeat (first | refine blk_drewN ?_ _ | refine blk_drew ?_ | refine blk_alloc ?_ _)); refine blk_put (cs := #[.int .u64 0, .int .u64 0]) ?_ 1 _ rfl; (with_reducible repeat (first | refine blk_drewN ?_ _ | refine blk_drew ?_ | refine blk_alloc ?_ _)); refine blk_put (cs := #[.int .u64 0, .int .u64 0]) ?_ 0 _ rfl; (with_reducible repeat (first | refine blk_drewN ?_ _ | refine blk_drew ?_ | refine blk_alloc ?_ _)); exact BK156.out) Try.underlying24 rfl (by kernel_rfl) (.cell gb157 24 #[.int .u64 0, .int .u64 0] (0, 0) _ rfl (by (with_reducible repeat (first | refine blk_drewN ?_ _ | refine blk_drew ?_ | refine blk_alloc ?_ _)); refine blk_put (cs := #[.int .u64 0, .int .u64 0]) ?_ 1 _ rfl; (with_reducible repeat (first | refine blk_drewN ?_ _ | refine blk_drew ?_ | refine blk_alloc ?_ _)); refine blk_put (cs := #[.int .u64 0, .int .u64 0]) ?_ 0 _ rfl; (with_reducible repeat (first | refine blk_drewN ?_ _ | refine blk_drew ?_ | refine blk_alloc ?_ _)); refine blk_far ?_ NB157_156.out _; (with_reducible repeat (first | refine blk_drewN ?_ _ | refine blk_drew ?_ | refine blk_alloc ?_ _)); refine blk_far ?_ NB157_156.out _; (with_reducible repeat (first | refine blk_drewN ?_ _ | refine blk_drew ?_ | refine blk_alloc ?_ _)); exact BK157.out) Try.underlying24 rfl (by kernel_rfl) (.tmp .nil)))) rfl ?_
  exact ⟨by first | rfl | (simp [errW_none, errW_some] <;> rfl) | (simp [*, errW_none, errW_some] <;> rfl), by repeat (first | (with_reducible first | exact HB.out | apply below_alloc | apply pw_below_drewN | apply below_drew1 | refine below_set ?_ GE154.out | refine below_set ?_ GE155.out | refine below_set ?_ GE156.out | refine below_set ?_ GE157.out | refine below_set ?_ GE158.out) | exact HB.out)⟩
 ·
  rw [if_neg c3] at H
  have c3b0 : (a1_0 == 0 && (a1_1 == 0)) = false := by simpa using c3
  (try (have c3b1 : decide (a1_0 = 0 && (a1_1 == 0)) = false := by simpa using c3))
  (try (have c3b2 : (a1_0 == 0 && (a1_1 == 0)) = false := by simpa using c3))
  (try (have c3b3 : ¬ (a1_0 = 0 && (a1_1 == 0)) := by simpa using c3))
  clear c3
  have H' := Aside0.mk H
  clear H
  go_enter Try.func27, Try.ntmps27
  try go_wp2_with (first | ((with_reducible refine gate_dst (N := 2) rfl ?_); refine box_event ?hg (N := 2) ?hd (cs := #[.int .u64 a0_0, .int .u64 a0_1]) (t := 24) ?hr ?_; (case hd => rfl); (case hg => rfl); (case hr => first | (go_simp; done) | (go_simp; rfl)); intro gb154 hg w24 hbox hb; have n0_ := Aside0.mk (below_step (bW HB.out) hb); have n1_ := Aside0.mk (hbox); have n2_ := Aside0.mk ((by rw [hg]; exact (below_size (bW HB.out)) : w.heap.size ≤ gb154)); have n3_ := Aside0.mk ((by rw [hg]; exact (below_size (bW HB.out)) : w.heap.size ≤ gb154)); clear HB; have HB := n0_; have BK154 := n1_; have GW154 := n2_; have GE154 := n3_; clear n0_ n1_ n2_ n3_ hb hbox hg) | ((with_reducible refine gate_dst (N := 3) rfl ?_); refine box_event ?hg (N := 3) ?hd (cs := #[.int .u64 a1_0, .int .u64 a1_1]) (t := 24) ?hr ?_; (case hd => rfl); (case hg => rfl); (case hr => first | (go_simp; done) | (go_simp; rfl)); intro gb155 hg w25 hbox hb; have n0_ := Aside0.mk (blk_below (bT BK154.out) hb); have n1_ := Aside0.mk (below_step (bW HB.out) hb); have n2_ := Aside0.mk (hbox); have n3_ := Aside0.mk ((by rw [hg]; exact (below_size (bW HB.out)) : w.heap.size ≤ gb155)); have n4_ := Aside0.mk ((by rw [hg]; exact (below_size (bW HB.out)) : w.heap.size ≤ gb155)); have n5_ := Aside0.mk ((by rw [hg]; exact Nat.ne_of_lt (blk_lt (bT BK154.out)) : gb154 ≠ gb155)); have n6_ := Aside0.mk ((by rw [hg]; exact Nat.ne_of_gt (blk_lt (bT BK154.out)) : gb155 ≠ gb154)); clear BK154 HB; have BK154 := n0_; have HB := n1_; have BK155 := n2_; have GW155 := n3_; have GE155 := n4_; have NB154_155 := n5_; have NB155_154 := n6_; clear n0_ n1_ n2_ n3_ n4_ n5_ n6_ hb hbox hg) | ((with_reducible refine gate_dst (N := 4) rfl ?_); refine box_event ?hg (N := 4) ?hd (cs := #[.int .u64 0, .int .u64 0]) (t := 24) ?hr ?_; (case hd => rfl); (case hg => rfl); (case hr => first | (go_simp; done) | (go_simp; rfl)); intro gb156 hg w26 hbox hb; have n0_ := Aside0.mk (blk_below (bT BK154.out) hb); have n1_ := Aside0.mk (blk_below (bT BK155.out) hb); have n2_ := Aside0.mk (below_step (bW HB.out) hb); have n3_ := Aside0.mk (hbox); have n4_ := Aside0.mk ((by rw [hg]; exact (below_size (bW HB.out)) : w.heap.size ≤ gb156)); have n5_ := Aside0.mk ((by rw [hg]; exact (below_size (bW HB.out)) : w.heap.size ≤ gb156)); have n6_ := Aside0.mk ((by rw [hg]; exact Nat.ne_of_lt (blk_lt (bT BK154.out)) : gb154 ≠ gb156)); have n7_ := Aside0.mk ((by rw [hg]; exact Nat.ne_of_gt (blk_lt (bT BK154.out)) : gb156 ≠ gb154)); have n8_ := Aside0.mk ((by rw [hg]; exact Nat.ne_of_lt (blk_lt (bT BK155.out)) : gb155 ≠ gb156)); have n9_ := Aside0.mk ((by rw [hg]; exact Nat.ne_of_gt (blk_lt (bT BK155.out)) : gb156 ≠ gb155)); clear BK154 BK155 HB; have BK154 := n0_; have BK155 := n1_; have HB := n2_; have BK156 := n3_; have GW156 := n4_; have GE156 := n5_; have NB154_156 := n6_; have NB156_154 := n7_; have NB155_156 := n8_; have NB156_155 := n9_; clear n0_ n1_ n2_ n3_ n4_ n5_ n6_ n7_ n8_ n9_ hb hbox hg) | ((with_reducible refine gate_dst (N := 5) rfl ?_); refine box_event ?hg (N := 5) ?hd (cs := #[.int .u64 0, .int .u64 0]) (t := 24) ?hr ?_; (case hd => rfl); (case hg => rfl); (case hr => first | (go_simp; done) | (go_simp; rfl)); intro gb157 hg w27 hbox hb; have n0_ := Aside0.mk (blk_below (bT BK154.out) hb); have n1_ := Aside0.mk (blk_below (bT BK155.out) hb); have n2_ := Aside0.mk (blk_below (bT BK156.out) hb); have n3_ := Aside0.mk (below_step (bW HB.out) hb); have n4_ := Aside0.mk (hbox); have n5_ := Aside0.mk ((by rw [hg]; exact (below_size (bW HB.out)) : w.heap.size ≤ gb157)); have n6_ := Aside0.mk ((by rw [hg]; exact (below_size (bW HB.out)) : w.heap.size ≤ gb157)); have n7_ := Aside0.mk ((by rw [hg]; exact Nat.ne_of_lt (blk_lt (bT BK154.out)) : gb154 ≠ gb157)); have n8_ := Aside0.mk ((by rw [hg]; exact Nat.ne_of_gt (blk_lt (bT BK154.out)) : gb157 ≠ gb154)); have n9_ := Aside0.mk ((by rw [hg]; exact Nat.ne_of_lt (blk_lt (bT BK155.out)) : gb155 ≠ gb157)); have n10_ := Aside0.mk ((by rw [hg]; exact Nat.ne_of_gt (blk_lt (bT BK155.out)) : gb157 ≠ gb155)); have n11_ := Aside0.mk ((by rw [hg]; exact Nat.ne_of_lt (blk_lt (bT BK156.out)) : gb156 ≠ gb157)); have n12_ := Aside0.mk ((by rw [hg]; exact Nat.ne_of_gt (blk_lt (bT BK156.out)) : gb157 ≠ gb156)); clear BK154 BK155 BK156 HB; have BK154 := n0_; have BK155 := n1_; have BK156 := n2_; have HB := n3_; have BK157 := n4_; have GW157 := n5_; have GE157 := n6_; have NB154_157 := n7_; have NB157_154 := n8_; have NB155_157 := n9_; have NB157_155 := n10_; have NB156_157 := n11_; have NB157_156 := n12_; clear n0_ n1_ n2_ n3_ n4_ n5_ n6_ n7_ n8_ n9_ n10_ n11_ n12_ hb hbox hg) | ((with_reducible refine gate_dst (N := 7) rfl ?_); refine box_event ?hg (N := 7) ?hd (cs := #[.int .u64 0, .int .u64 0]) (t := 24) ?hr ?_; (case hd => rfl); (case hg => rfl); (case hr => first | (go_simp; done) | (go_simp; rfl)); intro gb158 hg w28 hbox hb; have n0_ := Aside0.mk (blk_below (bT BK154.out) hb); have n1_ := Aside0.mk (blk_below (bT BK155.out) hb); have n2_ := Aside0.mk (blk_below (bT BK156.out) hb); have n3_ := Aside0.mk (blk_below (bT BK157.out) hb); have n4_ := Aside0.mk (below_step (bW HB.out) hb); have n5_ := Aside0.mk (hbox); have n6_ := Aside0.mk ((by rw [hg]; exact (below_size (bW HB.out)) : w.heap.size ≤ gb158)); have n7_ := Aside0.mk ((by rw [hg]; exact (below_size (bW HB.out)) : w.heap.size ≤ gb158)); have n8_ := Aside0.mk ((by rw [hg]; exact Nat.ne_of_lt (blk_lt (bT BK154.out)) : gb154 ≠ gb158)); have n9_ := Aside0.mk ((by rw [hg]; exact Nat.ne_of_gt (blk_lt (bT BK154.out)) : gb158 ≠ gb154)); have n10_ := Aside0.mk ((by rw [hg]; exact Nat.ne_of_lt (blk_lt (bT BK155.out)) : gb155 ≠ gb158)); have n11_ := Aside0.mk ((by rw [hg]; exact Nat.ne_of_gt (blk_lt (bT BK155.out)) : gb158 ≠ gb155)); have n12_ := Aside0.mk ((by rw [hg]; exact Nat.ne_of_lt (blk_lt (bT BK156.out)) : gb156 ≠ gb158)); have n13_ := Aside0.mk ((by rw [hg]; exact Nat.ne_of_gt (blk_lt (bT BK156.out)) : gb158 ≠ gb156)); have n14_ := Aside0.mk ((by rw [hg]; exact Nat.ne_of_lt (blk_lt (bT BK157.out)) : gb157 ≠ gb158)); have n15_ := Aside0.mk ((by rw [hg]; exact Nat.ne_of_gt (blk_lt (bT BK157.out)) : gb158 ≠ gb157)); clear BK154 BK155 BK156 BK157 HB; have BK154 := n0_; have BK155 := n1_; have BK156 := n2_; have BK157 := n3_; have HB := n4_; have BK158 := n5_; have GW158 := n6_; have GE158 := n7_; have NB154_158 := n8_; have NB158_154 := n9_; have NB155_158 := n10_; have NB158_155 := n11_; have NB156_158 := n12_; have NB158_156 := n13_; have NB157_158 := n14_; have NB158_157 := n15_; clear n0_ n1_ n2_ n3_ n4_ n5_ n6_ n7_ n8_ n9_ n10_ n11_ n12_ n13_ n14_ n15_ hb hbox hg; have hnb29 := NB158_154.out; have hnc29 := NB154_158.out; have hnb30 := NB158_155.out; have hnc30 := NB155_158.out; have hnb31 := NB158_156.out; have hnc31 := NB156_158.out; have hnb32 := NB158_157.out; have hnc32 := NB157_158.out; have hcz33_0 : w28.cell? ⟨gb158, 0, none⟩ = some (.int .u64 0) := (blk_cell BK158.out 0).trans rfl; have hcz33_1 : w28.cell? ⟨gb158, 1, none⟩ = some (.int .u64 0) := (blk_cell BK158.out 1).trans rfl; have hfz33_0 := blk_frozen BK158.out 0; have hfz33_1 := blk_frozen BK158.out 1; have hnb34 := NB155_154.out; have hnc34 := NB154_155.out; have hnb35 := NB155_156.out; have hnc35 := NB156_155.out; have hnb36 := NB155_157.out; have hnc36 := NB157_155.out; have hcz37_0 : w28.cell? ⟨gb155, 0, none⟩ = some (.int .u64 a1_0) := (blk_cell BK155.out 0).trans rfl; have hcz37_1 : w28.cell? ⟨gb155, 1, none⟩ = some (.int .u64 a1_1) := (blk_cell BK155.out 1).trans rfl; have hfz37_0 := blk_frozen BK155.out 0; have hfz37_1 := blk_frozen BK155.out 1))
  have n0_ : Aside0 (((w28.setCell ⟨gb158, 0, none⟩ (.int .u64 0)).setCell ⟨gb158, 1, none⟩ (.int .u64 0)).heap[gb154]? = some (.cells #[.int .u64 a0_0, .int .u64 a0_1] 24 (0, 0))) := ⟨by (with_reducible repeat (first | refine blk_drewN ?_ _ | refine blk_drew ?_ | refine blk_alloc ?_ _)); refine blk_far ?_ NB154_158.out _; (with_reducible repeat (first | refine blk_drewN ?_ _ | refine blk_drew ?_ | refine blk_alloc ?_ _)); refine blk_far ?_ NB154_158.out _; (with_reducible repeat (first | refine blk_drewN ?_ _ | refine blk_drew ?_ | refine blk_alloc ?_ _)); exact BK154.out⟩
  have n1_ : Aside0 (((w28.setCell ⟨gb158, 0, none⟩ (.int .u64 0)).setCell ⟨gb158, 1, none⟩ (.int .u64 0)).heap[gb155]? = some (.cells #[.int .u64 a1_0, .int .u64 a1_1] 24 (0, 0))) := ⟨by (with_reducible repeat (first | refine blk_drewN ?_ _ | refine blk_drew ?_ | refine blk_alloc ?_ _)); refine blk_far ?_ NB155_158.out _; (with_reducible repeat (first | refine blk_drewN ?_ _ | refine blk_drew ?_ | refine blk_alloc ?_ _)); refine blk_far ?_ NB155_158.out _; (with_reducible repeat (first | refine blk_drewN ?_ _ | refine blk_drew ?_ | refine blk_alloc ?_ _)); exact BK155.out⟩
  have n2_ : Aside0 (((w28.setCell ⟨gb158, 0, none⟩ (.int .u64 0)).setCell ⟨gb158, 1, none⟩ (.int .u64 0)).heap[gb156]? = some (.cells #[.int .u64 0, .int .u64 0] 24 (0, 0))) := ⟨by (with_reducible repeat (first | refine blk_drewN ?_ _ | refine blk_drew ?_ | refine blk_alloc ?_ _)); refine blk_far ?_ NB156_158.out _; (with_reducible repeat (first | refine blk_drewN ?_ _ | refine blk_drew ?_ | refine blk_alloc ?_ _)); refine blk_far ?_ NB156_158.out _; (with_reducible repeat (first | refine blk_drewN ?_ _ | refine blk_drew ?_ | refine blk_alloc ?_ _)); exact BK156.out⟩
  have n3_ : Aside0 (((w28.setCell ⟨gb158, 0, none⟩ (.int .u64 0)).setCell ⟨gb158, 1, none⟩ (.int .u64 0)).heap[gb157]? = some (.cells #[.int .u64 0, .int .u64 0] 24 (0, 0))) := ⟨by (with_reducible repeat (first | refine blk_drewN ?_ _ | refine blk_drew ?_ | refine blk_alloc ?_ _)); refine blk_far ?_ NB157_158.out _; (with_reducible repeat (first | refine blk_drewN ?_ _ | refine blk_drew ?_ | refine blk_alloc ?_ _)); refine blk_far ?_ NB157_158.out _; (with_reducible repeat (first | refine blk_drewN ?_ _ | refine blk_drew ?_ | refine blk_alloc ?_ _)); exact BK157.out⟩
  have n4_ : Aside0 (((w28.setCell ⟨gb158, 0, none⟩ (.int .u64 0)).setCell ⟨gb158, 1, none⟩ (.int .u64 0)).heap[gb158]? = some (.cells #[.int .u64 0, .int .u64 0] 24 (0, 0))) := ⟨by (with_reducible repeat (first | refine blk_drewN ?_ _ | refine blk_drew ?_ | refine blk_alloc ?_ _)); refine blk_put (cs := #[.int .u64 0, .int .u64 0]) ?_ 1 _ rfl; (with_reducible repeat (first | refine blk_drewN ?_ _ | refine blk_drew ?_ | refine blk_alloc ?_ _)); refine blk_put (cs := #[.int .u64 0, .int .u64 0]) ?_ 0 _ rfl; (with_reducible repeat (first | refine blk_drewN ?_ _ | refine blk_drew ?_ | refine blk_alloc ?_ _)); exact BK158.out⟩
  have n5_ : Aside0 (Below w.heap.size w ((w28.setCell ⟨gb158, 0, none⟩ (.int .u64 0)).setCell ⟨gb158, 1, none⟩ (.int .u64 0))) := ⟨by repeat (first | (with_reducible first | exact HB.out | apply below_alloc | apply pw_below_drewN | apply below_drew1 | refine below_set ?_ GE154.out | refine below_set ?_ GE155.out | refine below_set ?_ GE156.out | refine below_set ?_ GE157.out | refine below_set ?_ GE158.out) | exact HB.out)⟩
  (try clear BK154)
  (try clear BK155)
  (try clear BK156)
  (try clear BK157)
  (try clear BK158)
  (try clear HB)
  generalize ((w28.setCell ⟨gb158, 0, none⟩ (.int .u64 0)).setCell ⟨gb158, 1, none⟩ (.int .u64 0)) = w38 at n0_ n1_ n2_ n3_ n4_ n5_ ⊢
  have BK154 := n0_
  have BK155 := n1_
  have BK156 := n2_
  have BK157 := n3_
  have BK158 := n4_
  have HB := n5_
  clear n0_ n1_ n2_ n3_ n4_ n5_
  have n0_ := Aside0.mk (blk_drew BK154.out)
  have n1_ := Aside0.mk (blk_drew BK155.out)
  have n2_ := Aside0.mk (blk_drew BK156.out)
  have n3_ := Aside0.mk (blk_drew BK157.out)
  have n4_ := Aside0.mk (blk_drew BK158.out)
  have n5_ := Aside0.mk (below_drew1 HB.out)
  clear BK154 BK155 BK156 BK157 BK158 HB
  have BK154 := n0_
  have BK155 := n1_
  have BK156 := n2_
  have BK157 := n3_
  have BK158 := n4_
  have HB := n5_
  clear n0_ n1_ n2_ n3_ n4_ n5_
  refine start_ (n := 6) (S := fun w' => w'.cell? ⟨gb158, 0, none⟩ = some (.int .u64 0) ∧ w'.cell? ⟨gb158, 1, none⟩ = some (.int .u64 0)) (ds := []) #[false, false, false, false, false, false] (by kernel_rfl) rfl rfl ⟨(blk_cell BK158.out 0).trans rfl, (blk_cell BK158.out 1).trans rfl⟩ (fun hHeld => ?_)
  generalize w38.drew = w39 at BK154 BK155 BK156 BK157 BK158 HB hHeld ⊢
  refine take_ (i := 0) (N := some 20) (v := ?_) (a' := ?_) #[true, false, false, false, false, false] rfl rfl (by kernel_rfl) (fun _ _ _ h => h) (Or.inl ⟨by rfl, ?_⟩) hHeld ?_ ?_
  rotate_left
  ·
   rintro w' ⟨s0, s1⟩
   go_simp
   with_reducible rfl
  rotate_left
  ·
   simp only [Act.put, List.setIfInBounds_toArray, List.set_cons_zero, List.set_cons_succ, i64_w, i32_w]
   rfl
  refine take_ (i := 1) (N := some 21) (v := ?_) (a' := ?_) #[true, true, false, false, false, false] rfl rfl (by kernel_rfl) (fun _ _ _ h => h) (Or.inl ⟨by rfl, ?_⟩) hHeld ?_ ?_
  rotate_left
  ·
   rintro w' ⟨s0, s1⟩
   go_simp
   with_reducible rfl
  rotate_left
  ·
   simp only [Act.put, List.setIfInBounds_toArray, List.set_cons_zero, List.set_cons_succ, i64_w, i32_w]
   rfl
  refine join_ (σ := Nat × Nat) 2 #[true, true, true, true, false, false] (fun s_ => [(8, .pointer (some ⟨s_.1, 0, none⟩)), (9, .pointer (some ⟨s_.2, 0, none⟩))]) (fun s_ w' => (w'.cell? ⟨gb158, 0, none⟩ = some (.int .u64 0) ∧ w'.cell? ⟨gb158, 1, none⟩ = some (.int .u64 0)) ∧ (w'.heap[gb154]? = some (.cells #[.int .u64 a0_0, .int .u64 a0_1] 24 (0, 0))) ∧ (w'.heap[gb155]? = some (.cells #[.int .u64 a1_0, .int .u64 a1_1] 24 (0, 0))) ∧ (w'.heap[gb156]? = some (.cells #[.int .u64 0, .int .u64 0] 24 (0, 0))) ∧ (w'.heap[gb157]? = some (.cells #[.int .u64 0, .int .u64 0] 24 (0, 0))) ∧ (w'.heap[gb158]? = some (.cells #[.int .u64 0, .int .u64 0] 24 (0, 0))) ∧ (w'.heap[s_.1]? = some (.cells #[.int .u64 0, .int .u64 0] 24 (0, 0))) ∧ (w'.heap[s_.2]? = some (.cells #[.int .u64 0, .int .u64 0] 24 (0, 0))) ∧ (w.heap.size ≤ s_.1) ∧ (w.heap.size ≤ s_.1) ∧ (gb154 ≠ s_.1) ∧ (s_.1 ≠ gb154) ∧ (gb155 ≠ s_.1) ∧ (s_.1 ≠ gb155) ∧ (gb156 ≠ s_.1) ∧ (s_.1 ≠ gb156) ∧ (gb157 ≠ s_.1) ∧ (s_.1 ≠ gb157) ∧ (gb158 ≠ s_.1) ∧ (s_.1 ≠ gb158) ∧ (s_.2 ≠ s_.1) ∧ (s_.1 ≠ s_.2) ∧ (w.heap.size ≤ s_.2) ∧ (w.heap.size ≤ s_.2) ∧ (gb154 ≠ s_.2) ∧ (s_.2 ≠ gb154) ∧ (gb155 ≠ s_.2) ∧ (s_.2 ≠ gb155) ∧ (gb156 ≠ s_.2) ∧ (s_.2 ≠ gb156) ∧ (gb157 ≠ s_.2) ∧ (s_.2 ≠ gb157) ∧ (gb158 ≠ s_.2) ∧ (s_.2 ≠ gb158) ∧ (Below w.heap.size w w')) ?_ ?_
  rotate_left
  ·
   intro hCont
   refine two_ (i := 2) (j := 3) (Ni := some 8) (Nj := some 9) #[true, true, true, false, false, false] #[true, true, false, true, false, false] rfl rfl rfl rfl (by kernel_rfl) (by decide) (by decide) (fun K hK => ?_) (fun K hK => ?_)
   ·
    skip
    refine box_step ?hg (N := 8) ?hd (cs := #[.int .u64 0, .int .u64 0]) (t := 24) ?hr ?_; (case hd => rfl); (case hg => rfl); (case hr => first | (go_simp; done) | (go_simp; rfl))
    intro gb159 hg w40 hbox hb
    have n0_ := Aside0.mk (blk_below (bT BK154.out) hb)
    have n1_ := Aside0.mk (blk_below (bT BK155.out) hb)
    have n2_ := Aside0.mk (blk_below (bT BK156.out) hb)
    have n3_ := Aside0.mk (blk_below (bT BK157.out) hb)
    have n4_ := Aside0.mk (blk_below (bT BK158.out) hb)
    have n5_ := Aside0.mk (below_step (bW HB.out) hb)
    have n6_ := Aside0.mk (hbox)
    have n7_ := Aside0.mk ((by rw [hg]; exact (below_size (bW HB.out)) : w.heap.size ≤ gb159))
    have n8_ := Aside0.mk ((by rw [hg]; exact (below_size (bW HB.out)) : w.heap.size ≤ gb159))
    have n9_ := Aside0.mk ((by rw [hg]; exact Nat.ne_of_lt (blk_lt (bT BK154.out)) : gb154 ≠ gb159))
    have n10_ := Aside0.mk ((by rw [hg]; exact Nat.ne_of_gt (blk_lt (bT BK154.out)) : gb159 ≠ gb154))
    have n11_ := Aside0.mk ((by rw [hg]; exact Nat.ne_of_lt (blk_lt (bT BK155.out)) : gb155 ≠ gb159))
    have n12_ := Aside0.mk ((by rw [hg]; exact Nat.ne_of_gt (blk_lt (bT BK155.out)) : gb159 ≠ gb155))
    have n13_ := Aside0.mk ((by rw [hg]; exact Nat.ne_of_lt (blk_lt (bT BK156.out)) : gb156 ≠ gb159))
    have n14_ := Aside0.mk ((by rw [hg]; exact Nat.ne_of_gt (blk_lt (bT BK156.out)) : gb159 ≠ gb156))
    have n15_ := Aside0.mk ((by rw [hg]; exact Nat.ne_of_lt (blk_lt (bT BK157.out)) : gb157 ≠ gb159))
    have n16_ := Aside0.mk ((by rw [hg]; exact Nat.ne_of_gt (blk_lt (bT BK157.out)) : gb159 ≠ gb157))
    have n17_ := Aside0.mk ((by rw [hg]; exact Nat.ne_of_lt (blk_lt (bT BK158.out)) : gb158 ≠ gb159))
    have n18_ := Aside0.mk ((by rw [hg]; exact Nat.ne_of_gt (blk_lt (bT BK158.out)) : gb159 ≠ gb158))
    clear BK154 BK155 BK156 BK157 BK158 HB
    have BK154 := n0_
    have BK155 := n1_
    have BK156 := n2_
    have BK157 := n3_
    have BK158 := n4_
    have HB := n5_
    have BK159 := n6_
    have GW159 := n7_
    have GE159 := n8_
    have NB154_159 := n9_
    have NB159_154 := n10_
    have NB155_159 := n11_
    have NB159_155 := n12_
    have NB156_159 := n13_
    have NB159_156 := n14_
    have NB157_159 := n15_
    have NB159_157 := n16_
    have NB158_159 := n17_
    have NB159_158 := n18_
    clear n0_ n1_ n2_ n3_ n4_ n5_ n6_ n7_ n8_ n9_ n10_ n11_ n12_ n13_ n14_ n15_ n16_ n17_ n18_ hb hbox hg
    refine hK.out _ _ ⟨(blk_cell BK158.out 0).trans rfl, (blk_cell BK158.out 1).trans rfl⟩ (fun hHeld => ?_)
    clear hK K
    refine norm_ (a' := ?_) ?_ ?_
    rotate_left
    ·
     show Act.put _ (some 8) _ = _
     simp only [Act.put, List.setIfInBounds_toArray, List.set_cons_zero, List.set_cons_succ, i64_w, i32_w]
     rfl
    refine one_ (i := 3) (N := some 9) #[true, true, true, true, false, false] rfl rfl (by kernel_rfl) (by decide) (fun K hK => ?_)
    refine box_step ?hg (N := 9) ?hd (cs := #[.int .u64 0, .int .u64 0]) (t := 24) ?hr ?_; (case hd => rfl); (case hg => rfl); (case hr => first | (go_simp; done) | (go_simp; rfl))
    intro gb160 hg w41 hbox hb
    have n0_ := Aside0.mk (blk_below (bT BK154.out) hb)
    have n1_ := Aside0.mk (blk_below (bT BK155.out) hb)
    have n2_ := Aside0.mk (blk_below (bT BK156.out) hb)
    have n3_ := Aside0.mk (blk_below (bT BK157.out) hb)
    have n4_ := Aside0.mk (blk_below (bT BK158.out) hb)
    have n5_ := Aside0.mk (blk_below (bT BK159.out) hb)
    have n6_ := Aside0.mk (below_step (bW HB.out) hb)
    have n7_ := Aside0.mk (hbox)
    have n8_ := Aside0.mk ((by rw [hg]; exact (below_size (bW HB.out)) : w.heap.size ≤ gb160))
    have n9_ := Aside0.mk ((by rw [hg]; exact (below_size (bW HB.out)) : w.heap.size ≤ gb160))
    have n10_ := Aside0.mk ((by rw [hg]; exact Nat.ne_of_lt (blk_lt (bT BK154.out)) : gb154 ≠ gb160))
    have n11_ := Aside0.mk ((by rw [hg]; exact Nat.ne_of_gt (blk_lt (bT BK154.out)) : gb160 ≠ gb154))
    have n12_ := Aside0.mk ((by rw [hg]; exact Nat.ne_of_lt (blk_lt (bT BK155.out)) : gb155 ≠ gb160))
    have n13_ := Aside0.mk ((by rw [hg]; exact Nat.ne_of_gt (blk_lt (bT BK155.out)) : gb160 ≠ gb155))
    have n14_ := Aside0.mk ((by rw [hg]; exact Nat.ne_of_lt (blk_lt (bT BK156.out)) : gb156 ≠ gb160))
    have n15_ := Aside0.mk ((by rw [hg]; exact Nat.ne_of_gt (blk_lt (bT BK156.out)) : gb160 ≠ gb156))
    have n16_ := Aside0.mk ((by rw [hg]; exact Nat.ne_of_lt (blk_lt (bT BK157.out)) : gb157 ≠ gb160))
    have n17_ := Aside0.mk ((by rw [hg]; exact Nat.ne_of_gt (blk_lt (bT BK157.out)) : gb160 ≠ gb157))
    have n18_ := Aside0.mk ((by rw [hg]; exact Nat.ne_of_lt (blk_lt (bT BK158.out)) : gb158 ≠ gb160))
    have n19_ := Aside0.mk ((by rw [hg]; exact Nat.ne_of_gt (blk_lt (bT BK158.out)) : gb160 ≠ gb158))
    have n20_ := Aside0.mk ((by rw [hg]; exact Nat.ne_of_lt (blk_lt (bT BK159.out)) : gb159 ≠ gb160))
    have n21_ := Aside0.mk ((by rw [hg]; exact Nat.ne_of_gt (blk_lt (bT BK159.out)) : gb160 ≠ gb159))
    clear BK154 BK155 BK156 BK157 BK158 BK159 HB
    have BK154 := n0_
    have BK155 := n1_
    have BK156 := n2_
    have BK157 := n3_
    have BK158 := n4_
    have BK159 := n5_
    have HB := n6_
    have BK160 := n7_
    have GW160 := n8_
    have GE160 := n9_
    have NB154_160 := n10_
    have NB160_154 := n11_
    have NB155_160 := n12_
    have NB160_155 := n13_
    have NB156_160 := n14_
    have NB160_156 := n15_
    have NB157_160 := n16_
    have NB160_157 := n17_
    have NB158_160 := n18_
    have NB160_158 := n19_
    have NB159_160 := n20_
    have NB160_159 := n21_
    clear n0_ n1_ n2_ n3_ n4_ n5_ n6_ n7_ n8_ n9_ n10_ n11_ n12_ n13_ n14_ n15_ n16_ n17_ n18_ n19_ n20_ n21_ hb hbox hg
    refine hK.out _ _ ⟨(blk_cell BK158.out 0).trans rfl, (blk_cell BK158.out 1).trans rfl⟩ (fun hHeld => ?_)
    clear hK K
    refine norm_ (a' := ?_) ?_ ?_
    rotate_left
    ·
     show Act.put _ (some 9) _ = _
     simp only [Act.put, List.setIfInBounds_toArray, List.set_cons_zero, List.set_cons_succ, i64_w, i32_w]
     rfl
    exact norm_ (by simp only [putAll, Act.put, List.setIfInBounds_toArray, List.set_cons_zero, List.set_cons_succ]) (hCont (gb159, gb160) _ ⟨hHeld, (bT BK154.out), (bT BK155.out), (bT BK156.out), (bT BK157.out), (bT BK158.out), (bT BK159.out), (bT BK160.out), GW159.out, GE159.out, NB154_159.out, NB159_154.out, NB155_159.out, NB159_155.out, NB156_159.out, NB159_156.out, NB157_159.out, NB159_157.out, NB158_159.out, NB159_158.out, NB160_159.out, NB159_160.out, GW160.out, GE160.out, NB154_160.out, NB160_154.out, NB155_160.out, NB160_155.out, NB156_160.out, NB160_156.out, NB157_160.out, NB160_157.out, NB158_160.out, NB160_158.out, (bW HB.out)⟩)
   ·
    skip
    refine box_step ?hg (N := 9) ?hd (cs := #[.int .u64 0, .int .u64 0]) (t := 24) ?hr ?_; (case hd => rfl); (case hg => rfl); (case hr => first | (go_simp; done) | (go_simp; rfl))
    intro gb160 hg w40 hbox hb
    have n0_ := Aside0.mk (blk_below (bT BK154.out) hb)
    have n1_ := Aside0.mk (blk_below (bT BK155.out) hb)
    have n2_ := Aside0.mk (blk_below (bT BK156.out) hb)
    have n3_ := Aside0.mk (blk_below (bT BK157.out) hb)
    have n4_ := Aside0.mk (blk_below (bT BK158.out) hb)
    have n5_ := Aside0.mk (below_step (bW HB.out) hb)
    have n6_ := Aside0.mk (hbox)
    have n7_ := Aside0.mk ((by rw [hg]; exact (below_size (bW HB.out)) : w.heap.size ≤ gb160))
    have n8_ := Aside0.mk ((by rw [hg]; exact (below_size (bW HB.out)) : w.heap.size ≤ gb160))
    have n9_ := Aside0.mk ((by rw [hg]; exact Nat.ne_of_lt (blk_lt (bT BK154.out)) : gb154 ≠ gb160))
    have n10_ := Aside0.mk ((by rw [hg]; exact Nat.ne_of_gt (blk_lt (bT BK154.out)) : gb160 ≠ gb154))
    have n11_ := Aside0.mk ((by rw [hg]; exact Nat.ne_of_lt (blk_lt (bT BK155.out)) : gb155 ≠ gb160))
    have n12_ := Aside0.mk ((by rw [hg]; exact Nat.ne_of_gt (blk_lt (bT BK155.out)) : gb160 ≠ gb155))
    have n13_ := Aside0.mk ((by rw [hg]; exact Nat.ne_of_lt (blk_lt (bT BK156.out)) : gb156 ≠ gb160))
    have n14_ := Aside0.mk ((by rw [hg]; exact Nat.ne_of_gt (blk_lt (bT BK156.out)) : gb160 ≠ gb156))
    have n15_ := Aside0.mk ((by rw [hg]; exact Nat.ne_of_lt (blk_lt (bT BK157.out)) : gb157 ≠ gb160))
    have n16_ := Aside0.mk ((by rw [hg]; exact Nat.ne_of_gt (blk_lt (bT BK157.out)) : gb160 ≠ gb157))
    have n17_ := Aside0.mk ((by rw [hg]; exact Nat.ne_of_lt (blk_lt (bT BK158.out)) : gb158 ≠ gb160))
    have n18_ := Aside0.mk ((by rw [hg]; exact Nat.ne_of_gt (blk_lt (bT BK158.out)) : gb160 ≠ gb158))
    clear BK154 BK155 BK156 BK157 BK158 HB
    have BK154 := n0_
    have BK155 := n1_
    have BK156 := n2_
    have BK157 := n3_
    have BK158 := n4_
    have HB := n5_
    have BK160 := n6_
    have GW160 := n7_
    have GE160 := n8_
    have NB154_160 := n9_
    have NB160_154 := n10_
    have NB155_160 := n11_
    have NB160_155 := n12_
    have NB156_160 := n13_
    have NB160_156 := n14_
    have NB157_160 := n15_
    have NB160_157 := n16_
    have NB158_160 := n17_
    have NB160_158 := n18_
    clear n0_ n1_ n2_ n3_ n4_ n5_ n6_ n7_ n8_ n9_ n10_ n11_ n12_ n13_ n14_ n15_ n16_ n17_ n18_ hb hbox hg
    refine hK.out _ _ ⟨(blk_cell BK158.out 0).trans rfl, (blk_cell BK158.out 1).trans rfl⟩ (fun hHeld => ?_)
    clear hK K
    refine norm_ (a' := ?_) ?_ ?_
    rotate_left
    ·
     show Act.put _ (some 9) _ = _
     simp only [Act.put, List.setIfInBounds_toArray, List.set_cons_zero, List.set_cons_succ, i64_w, i32_w]
     rfl
    refine one_ (i := 2) (N := some 8) #[true, true, true, true, false, false] rfl rfl (by kernel_rfl) (by decide) (fun K hK => ?_)
    refine box_step ?hg (N := 8) ?hd (cs := #[.int .u64 0, .int .u64 0]) (t := 24) ?hr ?_; (case hd => rfl); (case hg => rfl); (case hr => first | (go_simp; done) | (go_simp; rfl))
    intro gb159 hg w41 hbox hb
    have n0_ := Aside0.mk (blk_below (bT BK154.out) hb)
    have n1_ := Aside0.mk (blk_below (bT BK155.out) hb)
    have n2_ := Aside0.mk (blk_below (bT BK156.out) hb)
    have n3_ := Aside0.mk (blk_below (bT BK157.out) hb)
    have n4_ := Aside0.mk (blk_below (bT BK158.out) hb)
    have n5_ := Aside0.mk (blk_below (bT BK160.out) hb)
    have n6_ := Aside0.mk (below_step (bW HB.out) hb)
    have n7_ := Aside0.mk (hbox)
    have n8_ := Aside0.mk ((by rw [hg]; exact (below_size (bW HB.out)) : w.heap.size ≤ gb159))
    have n9_ := Aside0.mk ((by rw [hg]; exact (below_size (bW HB.out)) : w.heap.size ≤ gb159))
    have n10_ := Aside0.mk ((by rw [hg]; exact Nat.ne_of_lt (blk_lt (bT BK154.out)) : gb154 ≠ gb159))
    have n11_ := Aside0.mk ((by rw [hg]; exact Nat.ne_of_gt (blk_lt (bT BK154.out)) : gb159 ≠ gb154))
    have n12_ := Aside0.mk ((by rw [hg]; exact Nat.ne_of_lt (blk_lt (bT BK155.out)) : gb155 ≠ gb159))
    have n13_ := Aside0.mk ((by rw [hg]; exact Nat.ne_of_gt (blk_lt (bT BK155.out)) : gb159 ≠ gb155))
    have n14_ := Aside0.mk ((by rw [hg]; exact Nat.ne_of_lt (blk_lt (bT BK156.out)) : gb156 ≠ gb159))
    have n15_ := Aside0.mk ((by rw [hg]; exact Nat.ne_of_gt (blk_lt (bT BK156.out)) : gb159 ≠ gb156))
    have n16_ := Aside0.mk ((by rw [hg]; exact Nat.ne_of_lt (blk_lt (bT BK157.out)) : gb157 ≠ gb159))
    have n17_ := Aside0.mk ((by rw [hg]; exact Nat.ne_of_gt (blk_lt (bT BK157.out)) : gb159 ≠ gb157))
    have n18_ := Aside0.mk ((by rw [hg]; exact Nat.ne_of_lt (blk_lt (bT BK158.out)) : gb158 ≠ gb159))
    have n19_ := Aside0.mk ((by rw [hg]; exact Nat.ne_of_gt (blk_lt (bT BK158.out)) : gb159 ≠ gb158))
    have n20_ := Aside0.mk ((by rw [hg]; exact Nat.ne_of_lt (blk_lt (bT BK160.out)) : gb160 ≠ gb159))
    have n21_ := Aside0.mk ((by rw [hg]; exact Nat.ne_of_gt (blk_lt (bT BK160.out)) : gb159 ≠ gb160))
    clear BK154 BK155 BK156 BK157 BK158 BK160 HB
    have BK154 := n0_
    have BK155 := n1_
    have BK156 := n2_
    have BK157 := n3_
    have BK158 := n4_
    have BK160 := n5_
    have HB := n6_
    have BK159 := n7_
    have GW159 := n8_
    have GE159 := n9_
    have NB154_159 := n10_
    have NB159_154 := n11_
    have NB155_159 := n12_
    have NB159_155 := n13_
    have NB156_159 := n14_
    have NB159_156 := n15_
    have NB157_159 := n16_
    have NB159_157 := n17_
    have NB158_159 := n18_
    have NB159_158 := n19_
    have NB160_159 := n20_
    have NB159_160 := n21_
    clear n0_ n1_ n2_ n3_ n4_ n5_ n6_ n7_ n8_ n9_ n10_ n11_ n12_ n13_ n14_ n15_ n16_ n17_ n18_ n19_ n20_ n21_ hb hbox hg
    refine hK.out _ _ ⟨(blk_cell BK158.out 0).trans rfl, (blk_cell BK158.out 1).trans rfl⟩ (fun hHeld => ?_)
    clear hK K
    refine norm_ (a' := ?_) ?_ ?_
    rotate_left
    ·
     show Act.put _ (some 8) _ = _
     simp only [Act.put, List.setIfInBounds_toArray, List.set_cons_zero, List.set_cons_succ, i64_w, i32_w]
     rfl
    exact norm_ (by simp only [putAll, Act.put, List.setIfInBounds_toArray, List.set_cons_zero, List.set_cons_succ]) (hCont (gb159, gb160) _ ⟨hHeld, (bT BK154.out), (bT BK155.out), (bT BK156.out), (bT BK157.out), (bT BK158.out), (bT BK159.out), (bT BK160.out), GW159.out, GE159.out, NB154_159.out, NB159_154.out, NB155_159.out, NB159_155.out, NB156_159.out, NB159_156.out, NB157_159.out, NB159_157.out, NB158_159.out, NB159_158.out, NB160_159.out, NB159_160.out, GW160.out, GE160.out, NB154_160.out, NB160_154.out, NB155_160.out, NB160_155.out, NB156_160.out, NB160_156.out, NB157_160.out, NB160_157.out, NB158_160.out, NB160_158.out, (bW HB.out)⟩)
  rintro ⟨gb159, gb160⟩ w42 ⟨hS_, h0_, h1_, h2_, h3_, h4_, h5_, h6_, h7_, h8_, h9_, h10_, h11_, h12_, h13_, h14_, h15_, h16_, h17_, h18_, h19_, h20_, h21_, h22_, h23_, h24_, h25_, h26_, h27_, h28_, h29_, h30_, h31_, h32_, h33_⟩
  have n0_ : Aside0 (w42.heap[gb154]? = some (.cells #[.int .u64 a0_0, .int .u64 a0_1] 24 (0, 0))) := ⟨h0_⟩
  have n1_ : Aside0 (w42.heap[gb155]? = some (.cells #[.int .u64 a1_0, .int .u64 a1_1] 24 (0, 0))) := ⟨h1_⟩
  have n2_ : Aside0 (w42.heap[gb156]? = some (.cells #[.int .u64 0, .int .u64 0] 24 (0, 0))) := ⟨h2_⟩
  have n3_ : Aside0 (w42.heap[gb157]? = some (.cells #[.int .u64 0, .int .u64 0] 24 (0, 0))) := ⟨h3_⟩
  have n4_ : Aside0 (w42.heap[gb158]? = some (.cells #[.int .u64 0, .int .u64 0] 24 (0, 0))) := ⟨h4_⟩
  have n5_ : Aside0 (w42.heap[gb159]? = some (.cells #[.int .u64 0, .int .u64 0] 24 (0, 0))) := ⟨h5_⟩
  have n6_ : Aside0 (w42.heap[gb160]? = some (.cells #[.int .u64 0, .int .u64 0] 24 (0, 0))) := ⟨h6_⟩
  have n7_ : Aside0 (w.heap.size ≤ gb159) := ⟨h7_⟩
  have n8_ : Aside0 (w.heap.size ≤ gb159) := ⟨h8_⟩
  have n9_ : Aside0 (gb154 ≠ gb159) := ⟨h9_⟩
  have n10_ : Aside0 (gb159 ≠ gb154) := ⟨h10_⟩
  have n11_ : Aside0 (gb155 ≠ gb159) := ⟨h11_⟩
  have n12_ : Aside0 (gb159 ≠ gb155) := ⟨h12_⟩
  have n13_ : Aside0 (gb156 ≠ gb159) := ⟨h13_⟩
  have n14_ : Aside0 (gb159 ≠ gb156) := ⟨h14_⟩
  have n15_ : Aside0 (gb157 ≠ gb159) := ⟨h15_⟩
  have n16_ : Aside0 (gb159 ≠ gb157) := ⟨h16_⟩
  have n17_ : Aside0 (gb158 ≠ gb159) := ⟨h17_⟩
  have n18_ : Aside0 (gb159 ≠ gb158) := ⟨h18_⟩
  have n19_ : Aside0 (gb160 ≠ gb159) := ⟨h19_⟩
  have n20_ : Aside0 (gb159 ≠ gb160) := ⟨h20_⟩
  have n21_ : Aside0 (w.heap.size ≤ gb160) := ⟨h21_⟩
  have n22_ : Aside0 (w.heap.size ≤ gb160) := ⟨h22_⟩
  have n23_ : Aside0 (gb154 ≠ gb160) := ⟨h23_⟩
  have n24_ : Aside0 (gb160 ≠ gb154) := ⟨h24_⟩
  have n25_ : Aside0 (gb155 ≠ gb160) := ⟨h25_⟩
  have n26_ : Aside0 (gb160 ≠ gb155) := ⟨h26_⟩
  have n27_ : Aside0 (gb156 ≠ gb160) := ⟨h27_⟩
  have n28_ : Aside0 (gb160 ≠ gb156) := ⟨h28_⟩
  have n29_ : Aside0 (gb157 ≠ gb160) := ⟨h29_⟩
  have n30_ : Aside0 (gb160 ≠ gb157) := ⟨h30_⟩
  have n31_ : Aside0 (gb158 ≠ gb160) := ⟨h31_⟩
  have n32_ : Aside0 (gb160 ≠ gb158) := ⟨h32_⟩
  have n33_ : Aside0 (Below w.heap.size w w42) := ⟨h33_⟩
  clear BK154 BK155 BK156 BK157 BK158 HB h0_ h1_ h2_ h3_ h4_ h5_ h6_ h7_ h8_ h9_ h10_ h11_ h12_ h13_ h14_ h15_ h16_ h17_ h18_ h19_ h20_ h21_ h22_ h23_ h24_ h25_ h26_ h27_ h28_ h29_ h30_ h31_ h32_ h33_
  have BK154 := n0_
  have BK155 := n1_
  have BK156 := n2_
  have BK157 := n3_
  have BK158 := n4_
  have BK159 := n5_
  have BK160 := n6_
  have GW159 := n7_
  have GE159 := n8_
  have NB154_159 := n9_
  have NB159_154 := n10_
  have NB155_159 := n11_
  have NB159_155 := n12_
  have NB156_159 := n13_
  have NB159_156 := n14_
  have NB157_159 := n15_
  have NB159_157 := n16_
  have NB158_159 := n17_
  have NB159_158 := n18_
  have NB160_159 := n19_
  have NB159_160 := n20_
  have GW160 := n21_
  have GE160 := n22_
  have NB154_160 := n23_
  have NB160_154 := n24_
  have NB155_160 := n25_
  have NB160_155 := n26_
  have NB156_160 := n27_
  have NB160_156 := n28_
  have NB157_160 := n29_
  have NB160_157 := n30_
  have NB158_160 := n31_
  have NB160_158 := n32_
  have HB := n33_
  clear n0_ n1_ n2_ n3_ n4_ n5_ n6_ n7_ n8_ n9_ n10_ n11_ n12_ n13_ n14_ n15_ n16_ n17_ n18_ n19_ n20_ n21_ n22_ n23_ n24_ n25_ n26_ n27_ n28_ n29_ n30_ n31_ n32_ n33_
  have hHeld : w42.cell? ⟨gb158, 0, none⟩ = some (.int .u64 0) ∧ w42.cell? ⟨gb158, 1, none⟩ = some (.int .u64 0) := hS_
  refine norm_ (a' := ?_) ?_ ?_
  rotate_left
  ·
   simp only [putAll, Act.put, List.setIfInBounds_toArray, List.set_cons_zero, List.set_cons_succ]
   rfl
  refine one_ (i := 4) (N := none) #[true, true, true, true, true, false] rfl rfl (by kernel_rfl) (by decide) (fun K hK => ?_)
  have hs43 : w42.cell? ⟨gb159, 0, none⟩ = some (.int .u64 0) := (blk_cell BK159.out 0).trans rfl
  have hfs43 := blk_frozen BK159.out 0
  have hns43_0 := NB154_159.out
  have hns43_1 := NB155_159.out
  have hns43_2 := NB156_159.out
  have hns43_3 := NB157_159.out
  have hns43_4 := NB158_159.out
  have hns43_6 := NB160_159.out
  have hms43_0 := NB159_154.out
  have hms43_1 := NB159_155.out
  have hms43_2 := NB159_156.out
  have hms43_3 := NB159_157.out
  have hms43_4 := NB159_158.out
  have hms43_6 := NB159_160.out
  have hs44 : w42.cell? ⟨gb159, 1, none⟩ = some (.int .u64 0) := (blk_cell BK159.out 1).trans rfl
  have hfs44 := blk_frozen BK159.out 1
  have hns44_0 := NB154_159.out
  have hns44_1 := NB155_159.out
  have hns44_2 := NB156_159.out
  have hns44_3 := NB157_159.out
  have hns44_4 := NB158_159.out
  have hns44_6 := NB160_159.out
  have hms44_0 := NB159_154.out
  have hms44_1 := NB159_155.out
  have hms44_2 := NB159_156.out
  have hms44_3 := NB159_157.out
  have hms44_4 := NB159_158.out
  have hms44_6 := NB159_160.out
  refine skip_ (w1 := ?_) (by rfl) rfl ?_ ?_
  rotate_left
  ·
   go_simp
   rfl
  refine hK.out _ _ ⟨((cell_far (p := ⟨gb159, _, none⟩) NB158_159.out _).trans (((cell_far (p := ⟨gb159, _, none⟩) NB158_159.out _).trans (hHeld.1)))), ((cell_far (p := ⟨gb159, _, none⟩) NB158_159.out _).trans (((cell_far (p := ⟨gb159, _, none⟩) NB158_159.out _).trans (hHeld.2))))⟩ (fun hHeld => ?_)
  clear hK K
  refine one_ (i := 5) (N := none) #[true, true, true, true, true, true] rfl rfl (by kernel_rfl) (by decide) (fun K hK => ?_)
  have hs45 : w42.cell? ⟨gb160, 0, none⟩ = some (.int .u64 0) := (blk_cell BK160.out 0).trans rfl
  have hfs45 := blk_frozen BK160.out 0
  have hns45_0 := NB154_160.out
  have hns45_1 := NB155_160.out
  have hns45_2 := NB156_160.out
  have hns45_3 := NB157_160.out
  have hns45_4 := NB158_160.out
  have hns45_5 := NB159_160.out
  have hms45_0 := NB160_154.out
  have hms45_1 := NB160_155.out
  have hms45_2 := NB160_156.out
  have hms45_3 := NB160_157.out
  have hms45_4 := NB160_158.out
  have hms45_5 := NB160_159.out
  have hs46 : w42.cell? ⟨gb160, 1, none⟩ = some (.int .u64 0) := (blk_cell BK160.out 1).trans rfl
  have hfs46 := blk_frozen BK160.out 1
  have hns46_0 := NB154_160.out
  have hns46_1 := NB155_160.out
  have hns46_2 := NB156_160.out
  have hns46_3 := NB157_160.out
  have hns46_4 := NB158_160.out
  have hns46_5 := NB159_160.out
  have hms46_0 := NB160_154.out
  have hms46_1 := NB160_155.out
  have hms46_2 := NB160_156.out
  have hms46_3 := NB160_157.out
  have hms46_4 := NB160_158.out
  have hms46_5 := NB160_159.out
  refine skip_ (w1 := ?_) (by rfl) rfl ?_ ?_
  rotate_left
  ·
   go_simp
   rfl
  refine hK.out _ _ ⟨((cell_far (p := ⟨gb160, _, none⟩) NB158_160.out _).trans (((cell_far (p := ⟨gb160, _, none⟩) NB158_160.out _).trans (hHeld.1)))), ((cell_far (p := ⟨gb160, _, none⟩) NB158_160.out _).trans (((cell_far (p := ⟨gb160, _, none⟩) NB158_160.out _).trans (hHeld.2))))⟩ (fun hHeld => ?_)
  clear hK K
  refine done_ (by kernel_rfl) ?_
  try go_wp2
  go_loopg [10] k (fun kq v10 w' => ∃ (x10_1 : Int) (x160000_1 : Int) (x160001_1 : Int) (x161000_1 : Int) (x161001_1 : Int), v10 = .int .i64 x10_1 ∧ Aside0 (samphireref01_Div.l0 kq x10_1 a0_0 a0_1 a1_0 a1_1 x160000_1 x160001_1 x161000_1 x161001_1 = some (r1, r2, r3, r4, r5)) ∧ Aside0 (kq ≤ k) ∧ Aside0 (w'.heap[gb154]? = some (.cells #[.int .u64 a0_0, .int .u64 a0_1] 24 (0, 0))) ∧ Aside0 (w'.heap[gb155]? = some (.cells #[.int .u64 a1_0, .int .u64 a1_1] 24 (0, 0))) ∧ Aside0 (w'.heap[gb156]? = some (.cells #[.int .u64 0, .int .u64 0] 24 (0, 0))) ∧ Aside0 (w'.heap[gb157]? = some (.cells #[.int .u64 0, .int .u64 0] 24 (0, 0))) ∧ Aside0 (w'.heap[gb158]? = some (.cells #[.int .u64 0, .int .u64 0] 24 (0, 0))) ∧ Aside0 (w'.heap[gb159]? = some (.cells #[.int .u64 x160000_1, .int .u64 x160001_1] 24 (0, 0))) ∧ Aside0 (w'.heap[gb160]? = some (.cells #[.int .u64 x161000_1, .int .u64 x161001_1] 24 (0, 0))) ∧ Aside0 (Below w.heap.size w w'))
  case atStart => exact ⟨(127), (0), (0), (0), (0), (by first | rfl | (simp; done) | (simp [*]; done)), H', ⟨Nat.le_refl _⟩, ⟨by (with_reducible repeat (first | refine blk_drewN ?_ _ | refine blk_drew ?_ | refine blk_alloc ?_ _)); refine blk_far ?_ NB154_160.out _; (with_reducible repeat (first | refine blk_drewN ?_ _ | refine blk_drew ?_ | refine blk_alloc ?_ _)); refine blk_far ?_ NB154_160.out _; (with_reducible repeat (first | refine blk_drewN ?_ _ | refine blk_drew ?_ | refine blk_alloc ?_ _)); refine blk_far ?_ NB154_159.out _; (with_reducible repeat (first | refine blk_drewN ?_ _ | refine blk_drew ?_ | refine blk_alloc ?_ _)); refine blk_far ?_ NB154_159.out _; (with_reducible repeat (first | refine blk_drewN ?_ _ | refine blk_drew ?_ | refine blk_alloc ?_ _)); exact BK154.out⟩, ⟨by (with_reducible repeat (first | refine blk_drewN ?_ _ | refine blk_drew ?_ | refine blk_alloc ?_ _)); refine blk_far ?_ NB155_160.out _; (with_reducible repeat (first | refine blk_drewN ?_ _ | refine blk_drew ?_ | refine blk_alloc ?_ _)); refine blk_far ?_ NB155_160.out _; (with_reducible repeat (first | refine blk_drewN ?_ _ | refine blk_drew ?_ | refine blk_alloc ?_ _)); refine blk_far ?_ NB155_159.out _; (with_reducible repeat (first | refine blk_drewN ?_ _ | refine blk_drew ?_ | refine blk_alloc ?_ _)); refine blk_far ?_ NB155_159.out _; (with_reducible repeat (first | refine blk_drewN ?_ _ | refine blk_drew ?_ | refine blk_alloc ?_ _)); exact BK155.out⟩, ⟨by (with_reducible repeat (first | refine blk_drewN ?_ _ | refine blk_drew ?_ | refine blk_alloc ?_ _)); refine blk_far ?_ NB156_160.out _; (with_reducible repeat (first | refine blk_drewN ?_ _ | refine blk_drew ?_ | refine blk_alloc ?_ _)); refine blk_far ?_ NB156_160.out _; (with_reducible repeat (first | refine blk_drewN ?_ _ | refine blk_drew ?_ | refine blk_alloc ?_ _)); refine blk_far ?_ NB156_159.out _; (with_reducible repeat (first | refine blk_drewN ?_ _ | refine blk_drew ?_ | refine blk_alloc ?_ _)); refine blk_far ?_ NB156_159.out _; (with_reducible repeat (first | refine blk_drewN ?_ _ | refine blk_drew ?_ | refine blk_alloc ?_ _)); exact BK156.out⟩, ⟨by (with_reducible repeat (first | refine blk_drewN ?_ _ | refine blk_drew ?_ | refine blk_alloc ?_ _)); refine blk_far ?_ NB157_160.out _; (with_reducible repeat (first | refine blk_drewN ?_ _ | refine blk_drew ?_ | refine blk_alloc ?_ _)); refine blk_far ?_ NB157_160.out _; (with_reducible repeat (first | refine blk_drewN ?_ _ | refine blk_drew ?_ | refine blk_alloc ?_ _)); refine blk_far ?_ NB157_159.out _; (with_reducible repeat (first | refine blk_drewN ?_ _ | refine blk_drew ?_ | refine blk_alloc ?_ _)); refine blk_far ?_ NB157_159.out _; (with_reducible repeat (first | refine blk_drewN ?_ _ | refine blk_drew ?_ | refine blk_alloc ?_ _)); exact BK157.out⟩, ⟨by (with_reducible repeat (first | refine blk_drewN ?_ _ | refine blk_drew ?_ | refine blk_alloc ?_ _)); refine blk_far ?_ NB158_160.out _; (with_reducible repeat (first | refine blk_drewN ?_ _ | refine blk_drew ?_ | refine blk_alloc ?_ _)); refine blk_far ?_ NB158_160.out _; (with_reducible repeat (first | refine blk_drewN ?_ _ | refine blk_drew ?_ | refine blk_alloc ?_ _)); refine blk_far ?_ NB158_159.out _; (with_reducible repeat (first | refine blk_drewN ?_ _ | refine blk_drew ?_ | refine blk_alloc ?_ _)); refine blk_far ?_ NB158_159.out _; (with_reducible repeat (first | refine blk_drewN ?_ _ | refine blk_drew ?_ | refine blk_alloc ?_ _)); exact BK158.out⟩, ⟨by (with_reducible repeat (first | refine blk_drewN ?_ _ | refine blk_drew ?_ | refine blk_alloc ?_ _)); refine blk_far ?_ NB159_160.out _; (with_reducible repeat (first | refine blk_drewN ?_ _ | refine blk_drew ?_ | refine blk_alloc ?_ _)); refine blk_far ?_ NB159_160.out _; (with_reducible repeat (first | refine blk_drewN ?_ _ | refine blk_drew ?_ | refine blk_alloc ?_ _)); refine blk_put (cs := #[.int .u64 0, .int .u64 0]) ?_ 1 _ rfl; (with_reducible repeat (first | refine blk_drewN ?_ _ | refine blk_drew ?_ | refine blk_alloc ?_ _)); refine blk_put (cs := #[.int .u64 0, .int .u64 0]) ?_ 0 _ rfl; (with_reducible repeat (first | refine blk_drewN ?_ _ | refine blk_drew ?_ | refine blk_alloc ?_ _)); exact BK159.out⟩, ⟨by (with_reducible repeat (first | refine blk_drewN ?_ _ | refine blk_drew ?_ | refine blk_alloc ?_ _)); refine blk_put (cs := #[.int .u64 0, .int .u64 0]) ?_ 1 _ rfl; (with_reducible repeat (first | refine blk_drewN ?_ _ | refine blk_drew ?_ | refine blk_alloc ?_ _)); refine blk_put (cs := #[.int .u64 0, .int .u64 0]) ?_ 0 _ rfl; (with_reducible repeat (first | refine blk_drewN ?_ _ | refine blk_drew ?_ | refine blk_alloc ?_ _)); refine blk_far ?_ NB160_159.out _; (with_reducible repeat (first | refine blk_drewN ?_ _ | refine blk_drew ?_ | refine blk_alloc ?_ _)); refine blk_far ?_ NB160_159.out _; (with_reducible repeat (first | refine blk_drewN ?_ _ | refine blk_drew ?_ | refine blk_alloc ?_ _)); exact BK160.out⟩, ⟨by repeat (first | (with_reducible first | exact HB.out | apply below_alloc | apply pw_below_drewN | apply below_drew1 | refine below_set ?_ GE154.out | refine below_set ?_ GE155.out | refine below_set ?_ GE156.out | refine below_set ?_ GE157.out | refine below_set ?_ GE158.out | refine below_set ?_ GE159.out | refine below_set ?_ GE160.out) | exact HB.out)⟩⟩
  case round =>
   clear H'
   try clear c1
   try clear c2
   try clear p2
   try clear c3
   try clear c3b0
   try clear c3b1
   try clear c3b2
   try clear c9
   try clear c10
   try clear c11
   try clear c12
   try clear c14
   try clear c15
   try clear c16
   try clear c27
   try clear c29
   try clear c30
   try clear c31
   try clear c32
   try clear c34
   try clear c35
   try clear c36
   try clear hcz13_0
   try clear hcz13_1
   try clear hcz17_0
   try clear hcz17_1
   try clear hcz33_0
   try clear hcz33_1
   try clear hcz37_0
   try clear hcz37_1
   try clear hfz13_0
   try clear hfz13_1
   try clear hfz17_0
   try clear hfz17_1
   try clear hfz33_0
   try clear hfz33_1
   try clear hfz37_0
   try clear hfz37_1
   obtain ⟨x10_1, x160000_1, x160001_1, x161000_1, x161001_1, rfl, HA, HK1, BK154, BK155, BK156, BK157, BK158, BK159, BK160, HB⟩ := hrel
   cases gk with
   | zero => exact absurd HA.out (by simp [samphireref01_Div.l0])
   | succ k1 =>
    have H := HA.out
    clear HA
    simp only [samphireref01_Div.l0] at H
    by_cases c47 : x10_1 ≥ 0
    ·
     rw [if_pos c47] at H
     have c47b0 : decide (0 ≤ x10_1) = true := decide_eq_true c47
     clear c47
     replace H := Option.bind_eq_some_iff.mp H
     obtain ⟨t161, A480, H⟩ := H
     replace H : ((samphireref01_Add.f x160000_1 x160001_1 x160000_1 x160001_1).bind fun bt162 => ((samphireref01_halfUp.f a1_0 a1_1 t161).bind fun bt165 => ((samphireref01_Cmp.f x161000_1 x161001_1 bt165.1 bt165.2).bind fun t167 => (if t167 ≥ 0 then ((samphireref01_Sub.f a1_0 a1_1 x161000_1 x161001_1).bind fun bt168 => ((samphireref01_Add.f x161000_1 x161001_1 0 t161).bind fun bt172 => ((samphireref01_Sub.f bt172.1 bt172.2.1 bt168.1 bt168.2.1).bind fun bt175 => ((samphireref01_Add.f bt162.1 bt162.2.1 0 1).bind fun bt178 => (samphireref01_Div.l0 k1 (wrap64 (x10_1 - 1)) a0_0 a0_1 a1_0 a1_1 bt178.1 bt178.2.1 bt175.1 bt175.2.1))))) else ((samphireref01_Add.f x161000_1 x161001_1 x161000_1 x161001_1).bind fun bt181 => ((samphireref01_Add.f bt181.1 bt181.2.1 0 t161).bind fun bt184 => (samphireref01_Div.l0 k1 (wrap64 (x10_1 - 1)) a0_0 a0_1 a1_0 a1_1 bt162.1 bt162.2.1 bt184.1 bt184.2.1))))))) = some (r1, r2, r3, r4, r5) := H
     have A48 := Aside0.mk A480
     clear A480
     replace H := Option.bind_eq_some_iff.mp H
     obtain ⟨⟨t162, t163, t164⟩, A490, H⟩ := H
     replace H : ((samphireref01_halfUp.f a1_0 a1_1 t161).bind fun bt165 => ((samphireref01_Cmp.f x161000_1 x161001_1 bt165.1 bt165.2).bind fun t167 => (if t167 ≥ 0 then ((samphireref01_Sub.f a1_0 a1_1 x161000_1 x161001_1).bind fun bt168 => ((samphireref01_Add.f x161000_1 x161001_1 0 t161).bind fun bt172 => ((samphireref01_Sub.f bt172.1 bt172.2.1 bt168.1 bt168.2.1).bind fun bt175 => ((samphireref01_Add.f t162 t163 0 1).bind fun bt178 => (samphireref01_Div.l0 k1 (wrap64 (x10_1 - 1)) a0_0 a0_1 a1_0 a1_1 bt178.1 bt178.2.1 bt175.1 bt175.2.1))))) else ((samphireref01_Add.f x161000_1 x161001_1 x161000_1 x161001_1).bind fun bt181 => ((samphireref01_Add.f bt181.1 bt181.2.1 0 t161).bind fun bt184 => (samphireref01_Div.l0 k1 (wrap64 (x10_1 - 1)) a0_0 a0_1 a1_0 a1_1 t162 t163 bt184.1 bt184.2.1)))))) = some (r1, r2, r3, r4, r5) := H
     have A49 := Aside0.mk A490
     clear A490
     replace H := Option.bind_eq_some_iff.mp H
     obtain ⟨⟨t165, t166⟩, A500, H⟩ := H
     replace H : ((samphireref01_Cmp.f x161000_1 x161001_1 t165 t166).bind fun t167 => (if t167 ≥ 0 then ((samphireref01_Sub.f a1_0 a1_1 x161000_1 x161001_1).bind fun bt168 => ((samphireref01_Add.f x161000_1 x161001_1 0 t161).bind fun bt172 => ((samphireref01_Sub.f bt172.1 bt172.2.1 bt168.1 bt168.2.1).bind fun bt175 => ((samphireref01_Add.f t162 t163 0 1).bind fun bt178 => (samphireref01_Div.l0 k1 (wrap64 (x10_1 - 1)) a0_0 a0_1 a1_0 a1_1 bt178.1 bt178.2.1 bt175.1 bt175.2.1))))) else ((samphireref01_Add.f x161000_1 x161001_1 x161000_1 x161001_1).bind fun bt181 => ((samphireref01_Add.f bt181.1 bt181.2.1 0 t161).bind fun bt184 => (samphireref01_Div.l0 k1 (wrap64 (x10_1 - 1)) a0_0 a0_1 a1_0 a1_1 t162 t163 bt184.1 bt184.2.1))))) = some (r1, r2, r3, r4, r5) := H
     have A50 := Aside0.mk A500
     clear A500
     replace H := Option.bind_eq_some_iff.mp H
     obtain ⟨t167, A510, H⟩ := H
     replace H : (if t167 ≥ 0 then ((samphireref01_Sub.f a1_0 a1_1 x161000_1 x161001_1).bind fun bt168 => ((samphireref01_Add.f x161000_1 x161001_1 0 t161).bind fun bt172 => ((samphireref01_Sub.f bt172.1 bt172.2.1 bt168.1 bt168.2.1).bind fun bt175 => ((samphireref01_Add.f t162 t163 0 1).bind fun bt178 => (samphireref01_Div.l0 k1 (wrap64 (x10_1 - 1)) a0_0 a0_1 a1_0 a1_1 bt178.1 bt178.2.1 bt175.1 bt175.2.1))))) else ((samphireref01_Add.f x161000_1 x161001_1 x161000_1 x161001_1).bind fun bt181 => ((samphireref01_Add.f bt181.1 bt181.2.1 0 t161).bind fun bt184 => (samphireref01_Div.l0 k1 (wrap64 (x10_1 - 1)) a0_0 a0_1 a1_0 a1_1 t162 t163 bt184.1 bt184.2.1)))) = some (r1, r2, r3, r4, r5) := H
     have A51 := Aside0.mk A510
     clear A510
     by_cases c52 : t167 ≥ 0
     ·
      rw [if_pos c52] at H
      have c52b0 : decide (0 ≤ t167) = true := decide_eq_true c52
      clear c52
      replace H := Option.bind_eq_some_iff.mp H
      obtain ⟨⟨t168, t169, t170⟩, A530, H⟩ := H
      replace H : ((samphireref01_Add.f x161000_1 x161001_1 0 t161).bind fun bt172 => ((samphireref01_Sub.f bt172.1 bt172.2.1 t168 t169).bind fun bt175 => ((samphireref01_Add.f t162 t163 0 1).bind fun bt178 => (samphireref01_Div.l0 k1 (wrap64 (x10_1 - 1)) a0_0 a0_1 a1_0 a1_1 bt178.1 bt178.2.1 bt175.1 bt175.2.1)))) = some (r1, r2, r3, r4, r5) := H
      have A53 := Aside0.mk A530
      clear A530
      replace H := Option.bind_eq_some_iff.mp H
      obtain ⟨⟨t172, t173, t174⟩, A540, H⟩ := H
      replace H : ((samphireref01_Sub.f t172 t173 t168 t169).bind fun bt175 => ((samphireref01_Add.f t162 t163 0 1).bind fun bt178 => (samphireref01_Div.l0 k1 (wrap64 (x10_1 - 1)) a0_0 a0_1 a1_0 a1_1 bt178.1 bt178.2.1 bt175.1 bt175.2.1))) = some (r1, r2, r3, r4, r5) := H
      have A54 := Aside0.mk A540
      clear A540
      replace H := Option.bind_eq_some_iff.mp H
      obtain ⟨⟨t175, t176, t177⟩, A550, H⟩ := H
      replace H : ((samphireref01_Add.f t162 t163 0 1).bind fun bt178 => (samphireref01_Div.l0 k1 (wrap64 (x10_1 - 1)) a0_0 a0_1 a1_0 a1_1 bt178.1 bt178.2.1 t175 t176)) = some (r1, r2, r3, r4, r5) := H
      have A55 := Aside0.mk A550
      clear A550
      replace H := Option.bind_eq_some_iff.mp H
      obtain ⟨⟨t178, t179, t180⟩, A560, H⟩ := H
      replace H : (samphireref01_Div.l0 k1 (wrap64 (x10_1 - 1)) a0_0 a0_1 a1_0 a1_1 t178 t179 t175 t176) = some (r1, r2, r3, r4, r5) := H
      have A56 := Aside0.mk A560
      clear A560
      have H' := Aside0.mk H
      clear H
      have hnb57 := NB154_155.out
      have hnc57 := NB155_154.out
      have hnb58 := NB154_156.out
      have hnc58 := NB156_154.out
      have hnb59 := NB154_157.out
      have hnc59 := NB157_154.out
      have hnb60 := NB154_158.out
      have hnc60 := NB158_154.out
      have hnb61 := NB154_159.out
      have hnc61 := NB159_154.out
      have hnb62 := NB154_160.out
      have hnc62 := NB160_154.out
      have hcz63_0 : wr.cell? ⟨gb154, 0, none⟩ = some (.int .u64 a0_0) := (blk_cell BK154.out 0).trans rfl
      have hcz63_1 : wr.cell? ⟨gb154, 1, none⟩ = some (.int .u64 a0_1) := (blk_cell BK154.out 1).trans rfl
      have hfz63_0 := blk_frozen BK154.out 0
      have hfz63_1 := blk_frozen BK154.out 1
      try go_wp2_with (first | ((with_reducible refine gate_callee (f := 37) rfl ?_); refine goesL_ (some 28) rfl rfl Try.func37 (by kernel_rfl) rfl #[.agg #[.int .u64 a0_0, .int .u64 a0_1], .int .i64 x10_1] rfl (by (try simp only [List.map_toArray, List.map_cons, List.map_nil]); first | done | rfl | (simp only [List.length_drop, List.length_take]; rfl)) ?_; (with_reducible refine (samphireref01_bit.calls a0_0 a0_1 x10_1 t161 _ A48.out).mono ?_); rintro e w64 ⟨rfl, hb⟩; refine ⟨_, rfl, ?_⟩; have n0_ := Aside0.mk (blk_below (bT BK154.out) hb); have n1_ := Aside0.mk (blk_below (bT BK155.out) hb); have n2_ := Aside0.mk (blk_below (bT BK156.out) hb); have n3_ := Aside0.mk (blk_below (bT BK157.out) hb); have n4_ := Aside0.mk (blk_below (bT BK158.out) hb); have n5_ := Aside0.mk (blk_below (bT BK159.out) hb); have n6_ := Aside0.mk (blk_below (bT BK160.out) hb); have n7_ := Aside0.mk (below_step (bW HB.out) hb); clear BK154 BK155 BK156 BK157 BK158 BK159 BK160 HB; have BK154 := n0_; have BK155 := n1_; have BK156 := n2_; have BK157 := n3_; have BK158 := n4_; have BK159 := n5_; have BK160 := n6_; have HB := n7_; clear n0_ n1_ n2_ n3_ n4_ n5_ n6_ n7_; (try clear hb); (try clear hb2); (try clear hk); (try clear hi); have hnb65 := NB159_155.out; have hnc65 := NB155_159.out; have hnb66 := NB159_156.out; have hnc66 := NB156_159.out; have hnb67 := NB159_157.out; have hnc67 := NB157_159.out; have hnb68 := NB159_158.out; have hnc68 := NB158_159.out; have hnb69 := NB159_160.out; have hnc69 := NB160_159.out; have hcz70_0 : w64.cell? ⟨gb159, 0, none⟩ = some (.int .u64 x160000_1) := (blk_cell BK159.out 0).trans rfl; have hcz70_1 : w64.cell? ⟨gb159, 1, none⟩ = some (.int .u64 x160001_1) := (blk_cell BK159.out 1).trans rfl; have hfz70_0 := blk_frozen BK159.out 0; have hfz70_1 := blk_frozen BK159.out 1) | ((with_reducible refine gate_callee (f := 21) rfl ?_); refine goesL_ (some 32) rfl rfl Try.func21 (by kernel_rfl) rfl #[.agg #[.int .u64 x160000_1, .int .u64 x160001_1], .agg #[.int .u64 x160000_1, .int .u64 x160001_1]] rfl (by (try simp only [List.map_toArray, List.map_cons, List.map_nil]); first | done | rfl | (simp only [List.length_drop, List.length_take]; rfl)) ?_; (with_reducible refine (samphireref01_Add.calls x160000_1 x160001_1 x160000_1 x160001_1 t162 t163 t164 _ A49.out).mono ?_); rintro e w71 ⟨rfl, hb⟩; refine ⟨_, rfl, ?_⟩; have n0_ := Aside0.mk (blk_below (bT BK154.out) hb); have n1_ := Aside0.mk (blk_below (bT BK155.out) hb); have n2_ := Aside0.mk (blk_below (bT BK156.out) hb); have n3_ := Aside0.mk (blk_below (bT BK157.out) hb); have n4_ := Aside0.mk (blk_below (bT BK158.out) hb); have n5_ := Aside0.mk (blk_below (bT BK159.out) hb); have n6_ := Aside0.mk (blk_below (bT BK160.out) hb); have n7_ := Aside0.mk (below_step (bW HB.out) hb); clear BK154 BK155 BK156 BK157 BK158 BK159 BK160 HB; have BK154 := n0_; have BK155 := n1_; have BK156 := n2_; have BK157 := n3_; have BK158 := n4_; have BK159 := n5_; have BK160 := n6_; have HB := n7_; clear n0_ n1_ n2_ n3_ n4_ n5_ n6_ n7_; (try clear hb); (try clear hb2); (try clear hk); (try clear hi); have hcz72_0 : w71.cell? ⟨gb159, 0, none⟩ = some (.int .u64 x160000_1) := (blk_cell BK159.out 0).trans rfl; have hcz72_1 : w71.cell? ⟨gb159, 1, none⟩ = some (.int .u64 x160001_1) := (blk_cell BK159.out 1).trans rfl; have hfz72_0 := blk_frozen BK159.out 0; have hfz72_1 := blk_frozen BK159.out 1))
      have n0_ : Aside0 (((w71.setCell ⟨gb159, 0, none⟩ (.int .u64 t162)).setCell ⟨gb159, 1, none⟩ (.int .u64 t163)).heap[gb154]? = some (.cells #[.int .u64 a0_0, .int .u64 a0_1] 24 (0, 0))) := ⟨by (with_reducible repeat (first | refine blk_drewN ?_ _ | refine blk_drew ?_ | refine blk_alloc ?_ _)); refine blk_far ?_ NB154_159.out _; (with_reducible repeat (first | refine blk_drewN ?_ _ | refine blk_drew ?_ | refine blk_alloc ?_ _)); refine blk_far ?_ NB154_159.out _; (with_reducible repeat (first | refine blk_drewN ?_ _ | refine blk_drew ?_ | refine blk_alloc ?_ _)); exact BK154.out⟩
      have n1_ : Aside0 (((w71.setCell ⟨gb159, 0, none⟩ (.int .u64 t162)).setCell ⟨gb159, 1, none⟩ (.int .u64 t163)).heap[gb155]? = some (.cells #[.int .u64 a1_0, .int .u64 a1_1] 24 (0, 0))) := ⟨by (with_reducible repeat (first | refine blk_drewN ?_ _ | refine blk_drew ?_ | refine blk_alloc ?_ _)); refine blk_far ?_ NB155_159.out _; (with_reducible repeat (first | refine blk_drewN ?_ _ | refine blk_drew ?_ | refine blk_alloc ?_ _)); refine blk_far ?_ NB155_159.out _; (with_reducible repeat (first | refine blk_drewN ?_ _ | refine blk_drew ?_ | refine blk_alloc ?_ _)); exact BK155.out⟩
      have n2_ : Aside0 (((w71.setCell ⟨gb159, 0, none⟩ (.int .u64 t162)).setCell ⟨gb159, 1, none⟩ (.int .u64 t163)).heap[gb156]? = some (.cells #[.int .u64 0, .int .u64 0] 24 (0, 0))) := ⟨by (with_reducible repeat (first | refine blk_drewN ?_ _ | refine blk_drew ?_ | refine blk_alloc ?_ _)); refine blk_far ?_ NB156_159.out _; (with_reducible repeat (first | refine blk_drewN ?_ _ | refine blk_drew ?_ | refine blk_alloc ?_ _)); refine blk_far ?_ NB156_159.out _; (with_reducible repeat (first | refine blk_drewN ?_ _ | refine blk_drew ?_ | refine blk_alloc ?_ _)); exact BK156.out⟩
      have n3_ : Aside0 (((w71.setCell ⟨gb159, 0, none⟩ (.int .u64 t162)).setCell ⟨gb159, 1, none⟩ (.int .u64 t163)).heap[gb157]? = some (.cells #[.int .u64 0, .int .u64 0] 24 (0, 0))) := ⟨by (with_reducible repeat (first | refine blk_drewN ?_ _ | refine blk_drew ?_ | refine blk_alloc ?_ _)); refine blk_far ?_ NB157_159.out _; (with_reducible repeat (first | refine blk_drewN ?_ _ | refine blk_drew ?_ | refine blk_alloc ?_ _)); refine blk_far ?_ NB157_159.out _; (with_reducible repeat (first | refine blk_drewN ?_ _ | refine blk_drew ?_ | refine blk_alloc ?_ _)); exact BK157.out⟩
      have n4_ : Aside0 (((w71.setCell ⟨gb159, 0, none⟩ (.int .u64 t162)).setCell ⟨gb159, 1, none⟩ (.int .u64 t163)).heap[gb158]? = some (.cells #[.int .u64 0, .int .u64 0] 24 (0, 0))) := ⟨by (with_reducible repeat (first | refine blk_drewN ?_ _ | refine blk_drew ?_ | refine blk_alloc ?_ _)); refine blk_far ?_ NB158_159.out _; (with_reducible repeat (first | refine blk_drewN ?_ _ | refine blk_drew ?_ | refine blk_alloc ?_ _)); refine blk_far ?_ NB158_159.out _; (with_reducible repeat (first | refine blk_drewN ?_ _ | refine blk_drew ?_ | refine blk_alloc ?_ _)); exact BK158.out⟩
      have n5_ : Aside0 (((w71.setCell ⟨gb159, 0, none⟩ (.int .u64 t162)).setCell ⟨gb159, 1, none⟩ (.int .u64 t163)).heap[gb159]? = some (.cells #[.int .u64 t162, .int .u64 t163] 24 (0, 0))) := ⟨by (with_reducible repeat (first | refine blk_drewN ?_ _ | refine blk_drew ?_ | refine blk_alloc ?_ _)); refine blk_put (cs := #[.int .u64 t162, .int .u64 x160001_1]) ?_ 1 _ rfl; (with_reducible repeat (first | refine blk_drewN ?_ _ | refine blk_drew ?_ | refine blk_alloc ?_ _)); refine blk_put (cs := #[.int .u64 x160000_1, .int .u64 x160001_1]) ?_ 0 _ rfl; (with_reducible repeat (first | refine blk_drewN ?_ _ | refine blk_drew ?_ | refine blk_alloc ?_ _)); exact BK159.out⟩
      have n6_ : Aside0 (((w71.setCell ⟨gb159, 0, none⟩ (.int .u64 t162)).setCell ⟨gb159, 1, none⟩ (.int .u64 t163)).heap[gb160]? = some (.cells #[.int .u64 x161000_1, .int .u64 x161001_1] 24 (0, 0))) := ⟨by (with_reducible repeat (first | refine blk_drewN ?_ _ | refine blk_drew ?_ | refine blk_alloc ?_ _)); refine blk_far ?_ NB160_159.out _; (with_reducible repeat (first | refine blk_drewN ?_ _ | refine blk_drew ?_ | refine blk_alloc ?_ _)); refine blk_far ?_ NB160_159.out _; (with_reducible repeat (first | refine blk_drewN ?_ _ | refine blk_drew ?_ | refine blk_alloc ?_ _)); exact BK160.out⟩
      have n7_ : Aside0 (Below w.heap.size w ((w71.setCell ⟨gb159, 0, none⟩ (.int .u64 t162)).setCell ⟨gb159, 1, none⟩ (.int .u64 t163))) := ⟨by repeat (first | (with_reducible first | exact HB.out | apply below_alloc | apply pw_below_drewN | apply below_drew1 | refine below_set ?_ GE154.out | refine below_set ?_ GE155.out | refine below_set ?_ GE156.out | refine below_set ?_ GE157.out | refine below_set ?_ GE158.out | refine below_set ?_ GE159.out | refine below_set ?_ GE160.out) | exact HB.out)⟩
      (try clear BK154)
      (try clear BK155)
      (try clear BK156)
      (try clear BK157)
      (try clear BK158)
      (try clear BK159)
      (try clear BK160)
      (try clear HB)
      generalize ((w71.setCell ⟨gb159, 0, none⟩ (.int .u64 t162)).setCell ⟨gb159, 1, none⟩ (.int .u64 t163)) = w73 at n0_ n1_ n2_ n3_ n4_ n5_ n6_ n7_ ⊢
      have BK154 := n0_
      have BK155 := n1_
      have BK156 := n2_
      have BK157 := n3_
      have BK158 := n4_
      have BK159 := n5_
      have BK160 := n6_
      have HB := n7_
      clear n0_ n1_ n2_ n3_ n4_ n5_ n6_ n7_
      have n0_ := Aside0.mk (blk_drew BK154.out)
      have n1_ := Aside0.mk (blk_drew BK155.out)
      have n2_ := Aside0.mk (blk_drew BK156.out)
      have n3_ := Aside0.mk (blk_drew BK157.out)
      have n4_ := Aside0.mk (blk_drew BK158.out)
      have n5_ := Aside0.mk (blk_drew BK159.out)
      have n6_ := Aside0.mk (blk_drew BK160.out)
      have n7_ := Aside0.mk (below_drew1 HB.out)
      clear BK154 BK155 BK156 BK157 BK158 BK159 BK160 HB
      have BK154 := n0_
      have BK155 := n1_
      have BK156 := n2_
      have BK157 := n3_
      have BK158 := n4_
      have BK159 := n5_
      have BK160 := n6_
      have HB := n7_
      clear n0_ n1_ n2_ n3_ n4_ n5_ n6_ n7_
      refine start_ (n := 6) (S := fun w' => w'.cell? ⟨gb160, 0, none⟩ = some (.int .u64 x161000_1) ∧ w'.cell? ⟨gb160, 1, none⟩ = some (.int .u64 x161001_1) ∧ w'.cell? ⟨gb155, 0, none⟩ = some (.int .u64 a1_0) ∧ w'.cell? ⟨gb155, 1, none⟩ = some (.int .u64 a1_1)) (ds := []) #[false, false, false, false, false, false] (by kernel_rfl) rfl rfl ⟨(blk_cell BK160.out 0).trans rfl, (blk_cell BK160.out 1).trans rfl, (blk_cell BK155.out 0).trans rfl, (blk_cell BK155.out 1).trans rfl⟩ (fun hHeld => ?_)
      generalize w73.drew = w74 at BK154 BK155 BK156 BK157 BK158 BK159 BK160 HB hHeld ⊢
      refine pure_ (i := 2) (N := some 37) (v := ?_) (a' := ?_) #[false, false, true, false, false, false] rfl rfl (by kernel_rfl) (fun _ _ _ h => h) (Or.inl ⟨by rfl, ?_⟩) ?_ ?_
      rotate_left
      ·
       intro w'
       go_simp
       with_reducible rfl
      rotate_left
      ·
       simp only [Act.put, List.setIfInBounds_toArray, List.set_cons_zero, List.set_cons_succ, i64_w, i32_w]
       rfl
      refine take_ (i := 0) (N := some 35) (v := ?_) (a' := ?_) #[true, false, true, false, false, false] rfl rfl (by kernel_rfl) (fun _ _ _ h => h) (Or.inl ⟨by rfl, ?_⟩) hHeld ?_ ?_
      rotate_left
      ·
       rintro w' ⟨s0, s1, s2, s3⟩
       go_simp
       with_reducible rfl
      rotate_left
      ·
       simp only [Act.put, List.setIfInBounds_toArray, List.set_cons_zero, List.set_cons_succ, i64_w, i32_w]
       rfl
      refine take_ (i := 1) (N := some 36) (v := ?_) (a' := ?_) #[true, true, true, false, false, false] rfl rfl (by kernel_rfl) (fun _ _ _ h => h) (Or.inl ⟨by rfl, ?_⟩) hHeld ?_ ?_
      rotate_left
      ·
       rintro w' ⟨s0, s1, s2, s3⟩
       go_simp
       with_reducible rfl
      rotate_left
      ·
       simp only [Act.put, List.setIfInBounds_toArray, List.set_cons_zero, List.set_cons_succ, i64_w, i32_w]
       rfl
      refine one_ (i := 3) (N := some 38) #[true, true, true, true, false, false] rfl rfl (by kernel_rfl) (by decide) (fun K hK => ?_)
      refine goes_ Try.func38 (by kernel_rfl) rfl #[.agg #[.int .u64 a1_0, .int .u64 a1_1], .int .u64 t161] (by rfl) rfl rfl (by (try simp only [List.map_toArray, List.map_cons, List.map_nil]); first | done | rfl | (simp only [List.length_drop, List.length_take]; rfl)) ?_
      with_reducible refine (samphireref01_halfUp.calls a1_0 a1_1 t161 t165 t166 _ A50.out).mono ?_
      rintro e w75 ⟨rfl, hb⟩
      refine ⟨_, rfl, ?_⟩
      have n0_ := Aside0.mk (blk_below (bT BK154.out) hb)
      have n1_ := Aside0.mk (blk_below (bT BK155.out) hb)
      have n2_ := Aside0.mk (blk_below (bT BK156.out) hb)
      have n3_ := Aside0.mk (blk_below (bT BK157.out) hb)
      have n4_ := Aside0.mk (blk_below (bT BK158.out) hb)
      have n5_ := Aside0.mk (blk_below (bT BK159.out) hb)
      have n6_ := Aside0.mk (blk_below (bT BK160.out) hb)
      have n7_ := Aside0.mk (below_step (bW HB.out) hb)
      clear BK154 BK155 BK156 BK157 BK158 BK159 BK160 HB
      have BK154 := n0_
      have BK155 := n1_
      have BK156 := n2_
      have BK157 := n3_
      have BK158 := n4_
      have BK159 := n5_
      have BK160 := n6_
      have HB := n7_
      clear n0_ n1_ n2_ n3_ n4_ n5_ n6_ n7_
      (try clear hb)
      (try clear hb2)
      (try clear hk)
      (try clear hi)
      refine hK.out _ _ ⟨(blk_cell BK160.out 0).trans rfl, (blk_cell BK160.out 1).trans rfl, (blk_cell BK155.out 0).trans rfl, (blk_cell BK155.out 1).trans rfl⟩ (fun hHeld => ?_)
      clear hK K
      refine norm_ (a' := ?_) ?_ ?_
      rotate_left
      ·
       show Act.put _ (some 38) _ = _
       simp only [Act.put, List.setIfInBounds_toArray, List.set_cons_zero, List.set_cons_succ, i64_w, i32_w]
       rfl
      refine one_ (i := 4) (N := some 39) #[true, true, true, true, true, false] rfl rfl (by kernel_rfl) (by decide) (fun K hK => ?_)
      refine goes_ Try.func25 (by kernel_rfl) rfl #[.agg #[.int .u64 x161000_1, .int .u64 x161001_1], .agg #[.int .u64 t165, .int .u64 t166]] (by rfl) rfl rfl (by (try simp only [List.map_toArray, List.map_cons, List.map_nil]); first | done | rfl | (simp only [List.length_drop, List.length_take]; rfl)) ?_
      with_reducible refine (samphireref01_Cmp.calls x161000_1 x161001_1 t165 t166 t167 _ A51.out).mono ?_
      rintro e w76 ⟨rfl, hb⟩
      refine ⟨_, rfl, ?_⟩
      have n0_ := Aside0.mk (blk_below (bT BK154.out) hb)
      have n1_ := Aside0.mk (blk_below (bT BK155.out) hb)
      have n2_ := Aside0.mk (blk_below (bT BK156.out) hb)
      have n3_ := Aside0.mk (blk_below (bT BK157.out) hb)
      have n4_ := Aside0.mk (blk_below (bT BK158.out) hb)
      have n5_ := Aside0.mk (blk_below (bT BK159.out) hb)
      have n6_ := Aside0.mk (blk_below (bT BK160.out) hb)
      have n7_ := Aside0.mk (below_step (bW HB.out) hb)
      clear BK154 BK155 BK156 BK157 BK158 BK159 BK160 HB
      have BK154 := n0_
      have BK155 := n1_
      have BK156 := n2_
      have BK157 := n3_
      have BK158 := n4_
      have BK159 := n5_
      have BK160 := n6_
      have HB := n7_
      clear n0_ n1_ n2_ n3_ n4_ n5_ n6_ n7_
      (try clear hb)
      (try clear hb2)
      (try clear hk)
      (try clear hi)
      refine hK.out _ _ ⟨(blk_cell BK160.out 0).trans rfl, (blk_cell BK160.out 1).trans rfl, (blk_cell BK155.out 0).trans rfl, (blk_cell BK155.out 1).trans rfl⟩ (fun hHeld => ?_)
      clear hK K
      refine norm_ (a' := ?_) ?_ ?_
      rotate_left
      ·
       show Act.put _ (some 39) _ = _
       simp only [Act.put, List.setIfInBounds_toArray, List.set_cons_zero, List.set_cons_succ, i64_w, i32_w]
       rfl
      refine pure_ (i := 5) (N := some 40) (v := ?_) (a' := ?_) #[true, true, true, true, true, true] rfl rfl (by kernel_rfl) (fun _ _ _ h => h) (Or.inl ⟨by rfl, ?_⟩) ?_ ?_
      rotate_left
      ·
       intro w'
       go_simp
       with_reducible rfl
      rotate_left
      ·
       simp only [Act.put, List.setIfInBounds_toArray, List.set_cons_zero, List.set_cons_succ, i64_w, i32_w]
       rfl
      refine done_ (by kernel_rfl) ?_
      have hnb77 := NB155_156.out
      have hnc77 := NB156_155.out
      have hnb78 := NB155_157.out
      have hnc78 := NB157_155.out
      have hnb79 := NB155_158.out
      have hnc79 := NB158_155.out
      have hnb80 := NB155_160.out
      have hnc80 := NB160_155.out
      have hcz81_0 : w76.cell? ⟨gb155, 0, none⟩ = some (.int .u64 a1_0) := (blk_cell BK155.out 0).trans rfl
      have hcz81_1 : w76.cell? ⟨gb155, 1, none⟩ = some (.int .u64 a1_1) := (blk_cell BK155.out 1).trans rfl
      have hfz81_0 := blk_frozen BK155.out 0
      have hfz81_1 := blk_frozen BK155.out 1
      have hnb82 := NB160_156.out
      have hnc82 := NB156_160.out
      have hnb83 := NB160_157.out
      have hnc83 := NB157_160.out
      have hnb84 := NB160_158.out
      have hnc84 := NB158_160.out
      have hcz85_0 : w76.cell? ⟨gb160, 0, none⟩ = some (.int .u64 x161000_1) := (blk_cell BK160.out 0).trans rfl
      have hcz85_1 : w76.cell? ⟨gb160, 1, none⟩ = some (.int .u64 x161001_1) := (blk_cell BK160.out 1).trans rfl
      have hfz85_0 := blk_frozen BK160.out 0
      have hfz85_1 := blk_frozen BK160.out 1
      try go_wp2_with (first | ((with_reducible refine gate_callee (f := 23) rfl ?_); refine goesL_ (some 44) rfl rfl Try.func23 (by kernel_rfl) rfl #[.agg #[.int .u64 a1_0, .int .u64 a1_1], .agg #[.int .u64 x161000_1, .int .u64 x161001_1]] rfl (by (try simp only [List.map_toArray, List.map_cons, List.map_nil]); first | done | rfl | (simp only [List.length_drop, List.length_take]; rfl)) ?_; (with_reducible refine (samphireref01_Sub.calls a1_0 a1_1 x161000_1 x161001_1 t168 t169 t170 _ A53.out).mono ?_); rintro e w86 ⟨rfl, hb⟩; refine ⟨_, rfl, ?_⟩; have n0_ := Aside0.mk (blk_below (bT BK154.out) hb); have n1_ := Aside0.mk (blk_below (bT BK155.out) hb); have n2_ := Aside0.mk (blk_below (bT BK156.out) hb); have n3_ := Aside0.mk (blk_below (bT BK157.out) hb); have n4_ := Aside0.mk (blk_below (bT BK158.out) hb); have n5_ := Aside0.mk (blk_below (bT BK159.out) hb); have n6_ := Aside0.mk (blk_below (bT BK160.out) hb); have n7_ := Aside0.mk (below_step (bW HB.out) hb); clear BK154 BK155 BK156 BK157 BK158 BK159 BK160 HB; have BK154 := n0_; have BK155 := n1_; have BK156 := n2_; have BK157 := n3_; have BK158 := n4_; have BK159 := n5_; have BK160 := n6_; have HB := n7_; clear n0_ n1_ n2_ n3_ n4_ n5_ n6_ n7_; (try clear hb); (try clear hb2); (try clear hk); (try clear hi)) | ((with_reducible refine gate_dst (N := 12) rfl ?_); refine box_event ?hg (N := 12) ?hd (cs := #[.int .u64 0, .int .u64 0]) (t := 24) ?hr ?_; (case hd => rfl); (case hg => rfl); (case hr => first | (go_simp; done) | (go_simp; rfl)); intro gb171 hg w87 hbox hb; have n0_ := Aside0.mk (blk_below (bT BK154.out) hb); have n1_ := Aside0.mk (blk_below (bT BK155.out) hb); have n2_ := Aside0.mk (blk_below (bT BK156.out) hb); have n3_ := Aside0.mk (blk_below (bT BK157.out) hb); have n4_ := Aside0.mk (blk_below (bT BK158.out) hb); have n5_ := Aside0.mk (blk_below (bT BK159.out) hb); have n6_ := Aside0.mk (blk_below (bT BK160.out) hb); have n7_ := Aside0.mk (below_step (bW HB.out) hb); have n8_ := Aside0.mk (hbox); have n9_ := Aside0.mk ((by rw [hg]; exact (below_size (bW HB.out)) : w.heap.size ≤ gb171)); have n10_ := Aside0.mk ((by rw [hg]; exact (below_size (bW HB.out)) : w.heap.size ≤ gb171)); have n11_ := Aside0.mk ((by rw [hg]; exact Nat.ne_of_lt (blk_lt (bT BK154.out)) : gb154 ≠ gb171)); have n12_ := Aside0.mk ((by rw [hg]; exact Nat.ne_of_gt (blk_lt (bT BK154.out)) : gb171 ≠ gb154)); have n13_ := Aside0.mk ((by rw [hg]; exact Nat.ne_of_lt (blk_lt (bT BK155.out)) : gb155 ≠ gb171)); have n14_ := Aside0.mk ((by rw [hg]; exact Nat.ne_of_gt (blk_lt (bT BK155.out)) : gb171 ≠ gb155)); have n15_ := Aside0.mk ((by rw [hg]; exact Nat.ne_of_lt (blk_lt (bT BK156.out)) : gb156 ≠ gb171)); have n16_ := Aside0.mk ((by rw [hg]; exact Nat.ne_of_gt (blk_lt (bT BK156.out)) : gb171 ≠ gb156)); have n17_ := Aside0.mk ((by rw [hg]; exact Nat.ne_of_lt (blk_lt (bT BK157.out)) : gb157 ≠ gb171)); have n18_ := Aside0.mk ((by rw [hg]; exact Nat.ne_of_gt (blk_lt (bT BK157.out)) : gb171 ≠ gb157)); have n19_ := Aside0.mk ((by rw [hg]; exact Nat.ne_of_lt (blk_lt (bT BK158.out)) : gb158 ≠ gb171)); have n20_ := Aside0.mk ((by rw [hg]; exact Nat.ne_of_gt (blk_lt (bT BK158.out)) : gb171 ≠ gb158)); have n21_ := Aside0.mk ((by rw [hg]; exact Nat.ne_of_lt (blk_lt (bT BK159.out)) : gb159 ≠ gb171)); have n22_ := Aside0.mk ((by rw [hg]; exact Nat.ne_of_gt (blk_lt (bT BK159.out)) : gb171 ≠ gb159)); have n23_ := Aside0.mk ((by rw [hg]; exact Nat.ne_of_lt (blk_lt (bT BK160.out)) : gb160 ≠ gb171)); have n24_ := Aside0.mk ((by rw [hg]; exact Nat.ne_of_gt (blk_lt (bT BK160.out)) : gb171 ≠ gb160)); clear BK154 BK155 BK156 BK157 BK158 BK159 BK160 HB; have BK154 := n0_; have BK155 := n1_; have BK156 := n2_; have BK157 := n3_; have BK158 := n4_; have BK159 := n5_; have BK160 := n6_; have HB := n7_; have BK171 := n8_; have GW171 := n9_; have GE171 := n10_; have NB154_171 := n11_; have NB171_154 := n12_; have NB155_171 := n13_; have NB171_155 := n14_; have NB156_171 := n15_; have NB171_156 := n16_; have NB157_171 := n17_; have NB171_157 := n18_; have NB158_171 := n19_; have NB171_158 := n20_; have NB159_171 := n21_; have NB171_159 := n22_; have NB160_171 := n23_; have NB171_160 := n24_; clear n0_ n1_ n2_ n3_ n4_ n5_ n6_ n7_ n8_ n9_ n10_ n11_ n12_ n13_ n14_ n15_ n16_ n17_ n18_ n19_ n20_ n21_ n22_ n23_ n24_ hb hbox hg; have hnb88 := NB171_154.out; have hnc88 := NB154_171.out; have hnb89 := NB171_155.out; have hnc89 := NB155_171.out; have hnb90 := NB171_156.out; have hnc90 := NB156_171.out; have hnb91 := NB171_157.out; have hnc91 := NB157_171.out; have hnb92 := NB171_158.out; have hnc92 := NB158_171.out; have hnb93 := NB171_159.out; have hnc93 := NB159_171.out; have hnb94 := NB171_160.out; have hnc94 := NB160_171.out; have hcz95_0 : w87.cell? ⟨gb171, 0, none⟩ = some (.int .u64 0) := (blk_cell BK171.out 0).trans rfl; have hcz95_1 : w87.cell? ⟨gb171, 1, none⟩ = some (.int .u64 0) := (blk_cell BK171.out 1).trans rfl; have hfz95_0 := blk_frozen BK171.out 0; have hfz95_1 := blk_frozen BK171.out 1; have hcz96_0 : w87.cell? ⟨gb160, 0, none⟩ = some (.int .u64 x161000_1) := (blk_cell BK160.out 0).trans rfl; have hcz96_1 : w87.cell? ⟨gb160, 1, none⟩ = some (.int .u64 x161001_1) := (blk_cell BK160.out 1).trans rfl; have hfz96_0 := blk_frozen BK160.out 0; have hfz96_1 := blk_frozen BK160.out 1) | ((with_reducible refine gate_callee (f := 21) rfl ?_); refine goesL_ (some 51) rfl rfl Try.func21 (by kernel_rfl) rfl #[.agg #[.int .u64 x161000_1, .int .u64 x161001_1], .agg #[.int .u64 0, .int .u64 t161]] rfl (by (try simp only [List.map_toArray, List.map_cons, List.map_nil]); first | done | rfl | (simp only [List.length_drop, List.length_take]; rfl)) ?_; (with_reducible refine (samphireref01_Add.calls x161000_1 x161001_1 0 t161 t172 t173 t174 _ A54.out).mono ?_); rintro e w97 ⟨rfl, hb⟩; refine ⟨_, rfl, ?_⟩; have n0_ := Aside0.mk (blk_below (g := gb154) (o := .cells #[.int .u64 a0_0, .int .u64 a0_1] 24 (0, 0)) (by (with_reducible repeat (first | refine blk_drewN ?_ _ | refine blk_drew ?_ | refine blk_alloc ?_ _)); refine blk_far ?_ NB154_171.out _; (with_reducible repeat (first | refine blk_drewN ?_ _ | refine blk_drew ?_ | refine blk_alloc ?_ _)); refine blk_far ?_ NB154_171.out _; (with_reducible repeat (first | refine blk_drewN ?_ _ | refine blk_drew ?_ | refine blk_alloc ?_ _)); exact BK154.out) hb); have n1_ := Aside0.mk (blk_below (g := gb155) (o := .cells #[.int .u64 a1_0, .int .u64 a1_1] 24 (0, 0)) (by (with_reducible repeat (first | refine blk_drewN ?_ _ | refine blk_drew ?_ | refine blk_alloc ?_ _)); refine blk_far ?_ NB155_171.out _; (with_reducible repeat (first | refine blk_drewN ?_ _ | refine blk_drew ?_ | refine blk_alloc ?_ _)); refine blk_far ?_ NB155_171.out _; (with_reducible repeat (first | refine blk_drewN ?_ _ | refine blk_drew ?_ | refine blk_alloc ?_ _)); exact BK155.out) hb); have n2_ := Aside0.mk (blk_below (g := gb156) (o := .cells #[.int .u64 0, .int .u64 0] 24 (0, 0)) (by (with_reducible repeat (first | refine blk_drewN ?_ _ | refine blk_drew ?_ | refine blk_alloc ?_ _)); refine blk_far ?_ NB156_171.out _; (with_reducible repeat (first | refine blk_drewN ?_ _ | refine blk_drew ?_ | refine blk_alloc ?_ _)); refine blk_far ?_ NB156_171.out _; (with_reducible repeat (first | refine blk_drewN ?_ _ | refine blk_drew ?_ | refine blk_alloc ?_ _)); exact BK156.out) hb); have n3_ := Aside0.mk (blk_below (g := gb157) (o := .cells #[.int .u64 0, .int .u64 0] 24 (0, 0)) (by (with_reducible repeat (first | refine blk_drewN ?_ _ | refine blk_drew ?_ | refine blk_alloc ?_ _)); refine blk_far ?_ NB157_171.out _; (with_reducible repeat (first | refine blk_drewN ?_ _ | refine blk_drew ?_ | refine blk_alloc ?_ _)); refine blk_far ?_ NB157_171.out _; (with_reducible repeat (first | refine blk_drewN ?_ _ | refine blk_drew ?_ | refine blk_alloc ?_ _)); exact BK157.out) hb); have n4_ := Aside0.mk (blk_below (g := gb158) (o := .cells #[.int .u64 0, .int .u64 0] 24 (0, 0)) (by (with_reducible repeat (first | refine blk_drewN ?_ _ | refine blk_drew ?_ | refine blk_alloc ?_ _)); refine blk_far ?_ NB158_171.out _; (with_reducible repeat (first | refine blk_drewN ?_ _ | refine blk_drew ?_ | refine blk_alloc ?_ _)); refine blk_far ?_ NB158_171.out _; (with_reducible repeat (first | refine blk_drewN ?_ _ | refine blk_drew ?_ | refine blk_alloc ?_ _)); exact BK158.out) hb); have n5_ := Aside0.mk (blk_below (g := gb159) (o := .cells #[.int .u64 t162, .int .u64 t163] 24 (0, 0)) (by (with_reducible repeat (first | refine blk_drewN ?_ _ | refine blk_drew ?_ | refine blk_alloc ?_ _)); refine blk_far ?_ NB159_171.out _; (with_reducible repeat (first | refine blk_drewN ?_ _ | refine blk_drew ?_ | refine blk_alloc ?_ _)); refine blk_far ?_ NB159_171.out _; (with_reducible repeat (first | refine blk_drewN ?_ _ | refine blk_drew ?_ | refine blk_alloc ?_ _)); exact BK159.out) hb); have n6_ := Aside0.mk (blk_below (g := gb160) (o := .cells #[.int .u64 x161000_1, .int .u64 x161001_1] 24 (0, 0)) (by (with_reducible repeat (first | refine blk_drewN ?_ _ | refine blk_drew ?_ | refine blk_alloc ?_ _)); refine blk_far ?_ NB160_171.out _; (with_reducible repeat (first | refine blk_drewN ?_ _ | refine blk_drew ?_ | refine blk_alloc ?_ _)); refine blk_far ?_ NB160_171.out _; (with_reducible repeat (first | refine blk_drewN ?_ _ | refine blk_drew ?_ | refine blk_alloc ?_ _)); exact BK160.out) hb); have n7_ := Aside0.mk (blk_below (g := gb171) (o := .cells #[.int .u64 t168, .int .u64 t169] 24 (0, 0)) (by (with_reducible repeat (first | refine blk_drewN ?_ _ | refine blk_drew ?_ | refine blk_alloc ?_ _)); refine blk_put (cs := #[.int .u64 t168, .int .u64 0]) ?_ 1 _ rfl; (with_reducible repeat (first | refine blk_drewN ?_ _ | refine blk_drew ?_ | refine blk_alloc ?_ _)); refine blk_put (cs := #[.int .u64 0, .int .u64 0]) ?_ 0 _ rfl; (with_reducible repeat (first | refine blk_drewN ?_ _ | refine blk_drew ?_ | refine blk_alloc ?_ _)); exact BK171.out) hb); have n8_ := Aside0.mk (below_step (bW HB.out) hb); clear BK154 BK155 BK156 BK157 BK158 BK159 BK160 BK171 HB; have BK154 := n0_; have BK155 := n1_; have BK156 := n2_; have BK157 := n3_; have BK158 := n4_; have BK159 := n5_; have BK160 := n6_; have BK171 := n7_; have HB := n8_; clear n0_ n1_ n2_ n3_ n4_ n5_ n6_ n7_ n8_; (try clear hb); (try clear hb2); (try clear hk); (try clear hi); have hcz98_0 : w97.cell? ⟨gb160, 0, none⟩ = some (.int .u64 x161000_1) := (blk_cell BK160.out 0).trans rfl; have hcz98_1 : w97.cell? ⟨gb160, 1, none⟩ = some (.int .u64 x161001_1) := (blk_cell BK160.out 1).trans rfl; have hfz98_0 := blk_frozen BK160.out 0; have hfz98_1 := blk_frozen BK160.out 1; have hcz99_0 : w97.cell? ⟨gb171, 0, none⟩ = some (.int .u64 t168) := (blk_cell BK171.out 0).trans rfl; have hcz99_1 : w97.cell? ⟨gb171, 1, none⟩ = some (.int .u64 t169) := (blk_cell BK171.out 1).trans rfl; have hfz99_0 := blk_frozen BK171.out 0; have hfz99_1 := blk_frozen BK171.out 1) | ((with_reducible refine gate_callee (f := 23) rfl ?_); refine goesL_ (some 57) rfl rfl Try.func23 (by kernel_rfl) rfl #[.agg #[.int .u64 t172, .int .u64 t173], .agg #[.int .u64 t168, .int .u64 t169]] rfl (by (try simp only [List.map_toArray, List.map_cons, List.map_nil]); first | done | rfl | (simp only [List.length_drop, List.length_take]; rfl)) ?_; (with_reducible refine (samphireref01_Sub.calls t172 t173 t168 t169 t175 t176 t177 _ A55.out).mono ?_); rintro e w100 ⟨rfl, hb⟩; refine ⟨_, rfl, ?_⟩; have n0_ := Aside0.mk (blk_below (g := gb154) (o := .cells #[.int .u64 a0_0, .int .u64 a0_1] 24 (0, 0)) (by (with_reducible repeat (first | refine blk_drewN ?_ _ | refine blk_drew ?_ | refine blk_alloc ?_ _)); refine blk_far ?_ NB154_160.out _; (with_reducible repeat (first | refine blk_drewN ?_ _ | refine blk_drew ?_ | refine blk_alloc ?_ _)); refine blk_far ?_ NB154_160.out _; (with_reducible repeat (first | refine blk_drewN ?_ _ | refine blk_drew ?_ | refine blk_alloc ?_ _)); exact BK154.out) hb); have n1_ := Aside0.mk (blk_below (g := gb155) (o := .cells #[.int .u64 a1_0, .int .u64 a1_1] 24 (0, 0)) (by (with_reducible repeat (first | refine blk_drewN ?_ _ | refine blk_drew ?_ | refine blk_alloc ?_ _)); refine blk_far ?_ NB155_160.out _; (with_reducible repeat (first | refine blk_drewN ?_ _ | refine blk_drew ?_ | refine blk_alloc ?_ _)); refine blk_far ?_ NB155_160.out _; (with_reducible repeat (first | refine blk_drewN ?_ _ | refine blk_drew ?_ | refine blk_alloc ?_ _)); exact BK155.out) hb); have n2_ := Aside0.mk (blk_below (g := gb156) (o := .cells #[.int .u64 0, .int .u64 0] 24 (0, 0)) (by (with_reducible repeat (first | refine blk_drewN ?_ _ | refine blk_drew ?_ | refine blk_alloc ?_ _)); refine blk_far ?_ NB156_160.out _; (with_reducible repeat (first | refine blk_drewN ?_ _ | refine blk_drew ?_ | refine blk_alloc ?_ _)); refine blk_far ?_ NB156_160.out _; (with_reducible repeat (first | refine blk_drewN ?_ _ | refine blk_drew ?_ | refine blk_alloc ?_ _)); exact BK156.out) hb); have n3_ := Aside0.mk (blk_below (g := gb157) (o := .cells #[.int .u64 0, .int .u64 0] 24 (0, 0)) (by (with_reducible repeat (first | refine blk_drewN ?_ _ | refine blk_drew ?_ | refine blk_alloc ?_ _)); refine blk_far ?_ NB157_160.out _; (with_reducible repeat (first | refine blk_drewN ?_ _ | refine blk_drew ?_ | refine blk_alloc ?_ _)); refine blk_far ?_ NB157_160.out _; (with_reducible repeat (first | refine blk_drewN ?_ _ | refine blk_drew ?_ | refine blk_alloc ?_ _)); exact BK157.out) hb); have n4_ := Aside0.mk (blk_below (g := gb158) (o := .cells #[.int .u64 0, .int .u64 0] 24 (0, 0)) (by (with_reducible repeat (first | refine blk_drewN ?_ _ | refine blk_drew ?_ | refine blk_alloc ?_ _)); refine blk_far ?_ NB158_160.out _; (with_reducible repeat (first | refine blk_drewN ?_ _ | refine blk_drew ?_ | refine blk_alloc ?_ _)); refine blk_far ?_ NB158_160.out _; (with_reducible repeat (first | refine blk_drewN ?_ _ | refine blk_drew ?_ | refine blk_alloc ?_ _)); exact BK158.out) hb); have n5_ := Aside0.mk (blk_below (g := gb159) (o := .cells #[.int .u64 t162, .int .u64 t163] 24 (0, 0)) (by (with_reducible repeat (first | refine blk_drewN ?_ _ | refine blk_drew ?_ | refine blk_alloc ?_ _)); refine blk_far ?_ NB159_160.out _; (with_reducible repeat (first | refine blk_drewN ?_ _ | refine blk_drew ?_ | refine blk_alloc ?_ _)); refine blk_far ?_ NB159_160.out _; (with_reducible repeat (first | refine blk_drewN ?_ _ | refine blk_drew ?_ | refine blk_alloc ?_ _)); exact BK159.out) hb); have n6_ := Aside0.mk (blk_below (g := gb160) (o := .cells #[.int .u64 t172, .int .u64 t173] 24 (0, 0)) (by (with_reducible repeat (first | refine blk_drewN ?_ _ | refine blk_drew ?_ | refine blk_alloc ?_ _)); refine blk_put (cs := #[.int .u64 t172, .int .u64 x161001_1]) ?_ 1 _ rfl; (with_reducible repeat (first | refine blk_drewN ?_ _ | refine blk_drew ?_ | refine blk_alloc ?_ _)); refine blk_put (cs := #[.int .u64 x161000_1, .int .u64 x161001_1]) ?_ 0 _ rfl; (with_reducible repeat (first | refine blk_drewN ?_ _ | refine blk_drew ?_ | refine blk_alloc ?_ _)); exact BK160.out) hb); have n7_ := Aside0.mk (blk_below (g := gb171) (o := .cells #[.int .u64 t168, .int .u64 t169] 24 (0, 0)) (by (with_reducible repeat (first | refine blk_drewN ?_ _ | refine blk_drew ?_ | refine blk_alloc ?_ _)); refine blk_far ?_ NB171_160.out _; (with_reducible repeat (first | refine blk_drewN ?_ _ | refine blk_drew ?_ | refine blk_alloc ?_ _)); refine blk_far ?_ NB171_160.out _; (with_reducible repeat (first | refine blk_drewN ?_ _ | refine blk_drew ?_ | refine blk_alloc ?_ _)); exact BK171.out) hb); have n8_ := Aside0.mk (below_step (bW HB.out) hb); clear BK154 BK155 BK156 BK157 BK158 BK159 BK160 BK171 HB; have BK154 := n0_; have BK155 := n1_; have BK156 := n2_; have BK157 := n3_; have BK158 := n4_; have BK159 := n5_; have BK160 := n6_; have BK171 := n7_; have HB := n8_; clear n0_ n1_ n2_ n3_ n4_ n5_ n6_ n7_ n8_; (try clear hb); (try clear hb2); (try clear hk); (try clear hi); have hcz101_0 : w100.cell? ⟨gb160, 0, none⟩ = some (.int .u64 t172) := (blk_cell BK160.out 0).trans rfl; have hcz101_1 : w100.cell? ⟨gb160, 1, none⟩ = some (.int .u64 t173) := (blk_cell BK160.out 1).trans rfl; have hfz101_0 := blk_frozen BK160.out 0; have hfz101_1 := blk_frozen BK160.out 1; have hcz102_0 : w100.cell? ⟨gb159, 0, none⟩ = some (.int .u64 t162) := (blk_cell BK159.out 0).trans rfl; have hcz102_1 : w100.cell? ⟨gb159, 1, none⟩ = some (.int .u64 t163) := (blk_cell BK159.out 1).trans rfl; have hfz102_0 := blk_frozen BK159.out 0; have hfz102_1 := blk_frozen BK159.out 1) | ((with_reducible refine gate_callee (f := 21) rfl ?_); refine goesL_ (some 63) rfl rfl Try.func21 (by kernel_rfl) rfl #[.agg #[.int .u64 t162, .int .u64 t163], .agg #[.int .u64 0, .int .u64 1]] rfl (by (try simp only [List.map_toArray, List.map_cons, List.map_nil]); first | done | rfl | (simp only [List.length_drop, List.length_take]; rfl)) ?_; (with_reducible refine (samphireref01_Add.calls t162 t163 0 1 t178 t179 t180 _ A56.out).mono ?_); rintro e w103 ⟨rfl, hb⟩; refine ⟨_, rfl, ?_⟩; have n0_ := Aside0.mk (blk_below (g := gb154) (o := .cells #[.int .u64 a0_0, .int .u64 a0_1] 24 (0, 0)) (by (with_reducible repeat (first | refine blk_drewN ?_ _ | refine blk_drew ?_ | refine blk_alloc ?_ _)); refine blk_far ?_ NB154_160.out _; (with_reducible repeat (first | refine blk_drewN ?_ _ | refine blk_drew ?_ | refine blk_alloc ?_ _)); refine blk_far ?_ NB154_160.out _; (with_reducible repeat (first | refine blk_drewN ?_ _ | refine blk_drew ?_ | refine blk_alloc ?_ _)); exact BK154.out) hb); have n1_ := Aside0.mk (blk_below (g := gb155) (o := .cells #[.int .u64 a1_0, .int .u64 a1_1] 24 (0, 0)) (by (with_reducible repeat (first | refine blk_drewN ?_ _ | refine blk_drew ?_ | refine blk_alloc ?_ _)); refine blk_far ?_ NB155_160.out _; (with_reducible repeat (first | refine blk_drewN ?_ _ | refine blk_drew ?_ | refine blk_alloc ?_ _)); refine blk_far ?_ NB155_160.out _; (with_reducible repeat (first | refine blk_drewN ?_ _ | refine blk_drew ?_ | refine blk_alloc ?_ _)); exact BK155.out) hb); have n2_ := Aside0.mk (blk_below (g := gb156) (o := .cells #[.int .u64 0, .int .u64 0] 24 (0, 0)) (by (with_reducible repeat (first | refine blk_drewN ?_ _ | refine blk_drew ?_ | refine blk_alloc ?_ _)); refine blk_far ?_ NB156_160.out _; (with_reducible repeat (first | refine blk_drewN ?_ _ | refine blk_drew ?_ | refine blk_alloc ?_ _)); refine blk_far ?_ NB156_160.out _; (with_reducible repeat (first | refine blk_drewN ?_ _ | refine blk_drew ?_ | refine blk_alloc ?_ _)); exact BK156.out) hb); have n3_ := Aside0.mk (blk_below (g := gb157) (o := .cells #[.int .u64 0, .int .u64 0] 24 (0, 0)) (by (with_reducible repeat (first | refine blk_drewN ?_ _ | refine blk_drew ?_ | refine blk_alloc ?_ _)); refine blk_far ?_ NB157_160.out _; (with_reducible repeat (first | refine blk_drewN ?_ _ | refine blk_drew ?_ | refine blk_alloc ?_ _)); refine blk_far ?_ NB157_160.out _; (with_reducible repeat (first | refine blk_drewN ?_ _ | refine blk_drew ?_ | refine blk_alloc ?_ _)); exact BK157.out) hb); have n4_ := Aside0.mk (blk_below (g := gb158) (o := .cells #[.int .u64 0, .int .u64 0] 24 (0, 0)) (by (with_reducible repeat (first | refine blk_drewN ?_ _ | refine blk_drew ?_ | refine blk_alloc ?_ _)); refine blk_far ?_ NB158_160.out _; (with_reducible repeat (first | refine blk_drewN ?_ _ | refine blk_drew ?_ | refine blk_alloc ?_ _)); refine blk_far ?_ NB158_160.out _; (with_reducible repeat (first | refine blk_drewN ?_ _ | refine blk_drew ?_ | refine blk_alloc ?_ _)); exact BK158.out) hb); have n5_ := Aside0.mk (blk_below (g := gb159) (o := .cells #[.int .u64 t162, .int .u64 t163] 24 (0, 0)) (by (with_reducible repeat (first | refine blk_drewN ?_ _ | refine blk_drew ?_ | refine blk_alloc ?_ _)); refine blk_far ?_ NB159_160.out _; (with_reducible repeat (first | refine blk_drewN ?_ _ | refine blk_drew ?_ | refine blk_alloc ?_ _)); refine blk_far ?_ NB159_160.out _; (with_reducible repeat (first | refine blk_drewN ?_ _ | refine blk_drew ?_ | refine blk_alloc ?_ _)); exact BK159.out) hb); have n6_ := Aside0.mk (blk_below (g := gb160) (o := .cells #[.int .u64 t175, .int .u64 t176] 24 (0, 0)) (by (with_reducible repeat (first | refine blk_drewN ?_ _ | refine blk_drew ?_ | refine blk_alloc ?_ _)); refine blk_put (cs := #[.int .u64 t175, .int .u64 t173]) ?_ 1 _ rfl; (with_reducible repeat (first | refine blk_drewN ?_ _ | refine blk_drew ?_ | refine blk_alloc ?_ _)); refine blk_put (cs := #[.int .u64 t172, .int .u64 t173]) ?_ 0 _ rfl; (with_reducible repeat (first | refine blk_drewN ?_ _ | refine blk_drew ?_ | refine blk_alloc ?_ _)); exact BK160.out) hb); have n7_ := Aside0.mk (blk_below (g := gb171) (o := .cells #[.int .u64 t168, .int .u64 t169] 24 (0, 0)) (by (with_reducible repeat (first | refine blk_drewN ?_ _ | refine blk_drew ?_ | refine blk_alloc ?_ _)); refine blk_far ?_ NB171_160.out _; (with_reducible repeat (first | refine blk_drewN ?_ _ | refine blk_drew ?_ | refine blk_alloc ?_ _)); refine blk_far ?_ NB171_160.out _; (with_reducible repeat (first | refine blk_drewN ?_ _ | refine blk_drew ?_ | refine blk_alloc ?_ _)); exact BK171.out) hb); have n8_ := Aside0.mk (below_step (bW HB.out) hb); clear BK154 BK155 BK156 BK157 BK158 BK159 BK160 BK171 HB; have BK154 := n0_; have BK155 := n1_; have BK156 := n2_; have BK157 := n3_; have BK158 := n4_; have BK159 := n5_; have BK160 := n6_; have BK171 := n7_; have HB := n8_; clear n0_ n1_ n2_ n3_ n4_ n5_ n6_ n7_ n8_; (try clear hb); (try clear hb2); (try clear hk); (try clear hi); have hcz104_0 : w103.cell? ⟨gb159, 0, none⟩ = some (.int .u64 t162) := (blk_cell BK159.out 0).trans rfl; have hcz104_1 : w103.cell? ⟨gb159, 1, none⟩ = some (.int .u64 t163) := (blk_cell BK159.out 1).trans rfl; have hfz104_0 := blk_frozen BK159.out 0; have hfz104_1 := blk_frozen BK159.out 1))
      go_roundg k1
      case measure => have := HK1.out; omega
      case rel => exact ⟨(wrap64 (x10_1 - 1)), (t178), (t179), (t175), (t176), (by first | rfl | (simp; done) | (simp [*]; done)), H', ⟨by have := HK1.out; omega⟩, ⟨by (with_reducible repeat (first | refine blk_drewN ?_ _ | refine blk_drew ?_ | refine blk_alloc ?_ _)); refine blk_far ?_ NB154_159.out _; (with_reducible repeat (first | refine blk_drewN ?_ _ | refine blk_drew ?_ | refine blk_alloc ?_ _)); refine blk_far ?_ NB154_159.out _; (with_reducible repeat (first | refine blk_drewN ?_ _ | refine blk_drew ?_ | refine blk_alloc ?_ _)); exact BK154.out⟩, ⟨by (with_reducible repeat (first | refine blk_drewN ?_ _ | refine blk_drew ?_ | refine blk_alloc ?_ _)); refine blk_far ?_ NB155_159.out _; (with_reducible repeat (first | refine blk_drewN ?_ _ | refine blk_drew ?_ | refine blk_alloc ?_ _)); refine blk_far ?_ NB155_159.out _; (with_reducible repeat (first | refine blk_drewN ?_ _ | refine blk_drew ?_ | refine blk_alloc ?_ _)); exact BK155.out⟩, ⟨by (with_reducible repeat (first | refine blk_drewN ?_ _ | refine blk_drew ?_ | refine blk_alloc ?_ _)); refine blk_far ?_ NB156_159.out _; (with_reducible repeat (first | refine blk_drewN ?_ _ | refine blk_drew ?_ | refine blk_alloc ?_ _)); refine blk_far ?_ NB156_159.out _; (with_reducible repeat (first | refine blk_drewN ?_ _ | refine blk_drew ?_ | refine blk_alloc ?_ _)); exact BK156.out⟩, ⟨by (with_reducible repeat (first | refine blk_drewN ?_ _ | refine blk_drew ?_ | refine blk_alloc ?_ _)); refine blk_far ?_ NB157_159.out _; (with_reducible repeat (first | refine blk_drewN ?_ _ | refine blk_drew ?_ | refine blk_alloc ?_ _)); refine blk_far ?_ NB157_159.out _; (with_reducible repeat (first | refine blk_drewN ?_ _ | refine blk_drew ?_ | refine blk_alloc ?_ _)); exact BK157.out⟩, ⟨by (with_reducible repeat (first | refine blk_drewN ?_ _ | refine blk_drew ?_ | refine blk_alloc ?_ _)); refine blk_far ?_ NB158_159.out _; (with_reducible repeat (first | refine blk_drewN ?_ _ | refine blk_drew ?_ | refine blk_alloc ?_ _)); refine blk_far ?_ NB158_159.out _; (with_reducible repeat (first | refine blk_drewN ?_ _ | refine blk_drew ?_ | refine blk_alloc ?_ _)); exact BK158.out⟩, ⟨by (with_reducible repeat (first | refine blk_drewN ?_ _ | refine blk_drew ?_ | refine blk_alloc ?_ _)); refine blk_put (cs := #[.int .u64 t178, .int .u64 t163]) ?_ 1 _ rfl; (with_reducible repeat (first | refine blk_drewN ?_ _ | refine blk_drew ?_ | refine blk_alloc ?_ _)); refine blk_put (cs := #[.int .u64 t162, .int .u64 t163]) ?_ 0 _ rfl; (with_reducible repeat (first | refine blk_drewN ?_ _ | refine blk_drew ?_ | refine blk_alloc ?_ _)); exact BK159.out⟩, ⟨by (with_reducible repeat (first | refine blk_drewN ?_ _ | refine blk_drew ?_ | refine blk_alloc ?_ _)); refine blk_far ?_ NB160_159.out _; (with_reducible repeat (first | refine blk_drewN ?_ _ | refine blk_drew ?_ | refine blk_alloc ?_ _)); refine blk_far ?_ NB160_159.out _; (with_reducible repeat (first | refine blk_drewN ?_ _ | refine blk_drew ?_ | refine blk_alloc ?_ _)); exact BK160.out⟩, ⟨by repeat (first | (with_reducible first | exact HB.out | apply below_alloc | apply pw_below_drewN | apply below_drew1 | refine below_set ?_ GE154.out | refine below_set ?_ GE155.out | refine below_set ?_ GE156.out | refine below_set ?_ GE157.out | refine below_set ?_ GE158.out | refine below_set ?_ GE159.out | refine below_set ?_ GE160.out | refine below_set ?_ GE171.out) | exact HB.out)⟩⟩
     ·
      rw [if_neg c52] at H
      have c52b0 : decide (0 ≤ t167) = false := decide_eq_false c52
      clear c52
      replace H := Option.bind_eq_some_iff.mp H
      obtain ⟨⟨t181, t182, t183⟩, A1050, H⟩ := H
      replace H : ((samphireref01_Add.f t181 t182 0 t161).bind fun bt184 => (samphireref01_Div.l0 k1 (wrap64 (x10_1 - 1)) a0_0 a0_1 a1_0 a1_1 t162 t163 bt184.1 bt184.2.1)) = some (r1, r2, r3, r4, r5) := H
      have A105 := Aside0.mk A1050
      clear A1050
      replace H := Option.bind_eq_some_iff.mp H
      obtain ⟨⟨t184, t185, t186⟩, A1060, H⟩ := H
      replace H : (samphireref01_Div.l0 k1 (wrap64 (x10_1 - 1)) a0_0 a0_1 a1_0 a1_1 t162 t163 t184 t185) = some (r1, r2, r3, r4, r5) := H
      have A106 := Aside0.mk A1060
      clear A1060
      have H' := Aside0.mk H
      clear H
      have hnb107 := NB154_155.out
      have hnc107 := NB155_154.out
      have hnb108 := NB154_156.out
      have hnc108 := NB156_154.out
      have hnb109 := NB154_157.out
      have hnc109 := NB157_154.out
      have hnb110 := NB154_158.out
      have hnc110 := NB158_154.out
      have hnb111 := NB154_159.out
      have hnc111 := NB159_154.out
      have hnb112 := NB154_160.out
      have hnc112 := NB160_154.out
      have hcz113_0 : wr.cell? ⟨gb154, 0, none⟩ = some (.int .u64 a0_0) := (blk_cell BK154.out 0).trans rfl
      have hcz113_1 : wr.cell? ⟨gb154, 1, none⟩ = some (.int .u64 a0_1) := (blk_cell BK154.out 1).trans rfl
      have hfz113_0 := blk_frozen BK154.out 0
      have hfz113_1 := blk_frozen BK154.out 1
      try go_wp2_with (first | ((with_reducible refine gate_callee (f := 37) rfl ?_); refine goesL_ (some 28) rfl rfl Try.func37 (by kernel_rfl) rfl #[.agg #[.int .u64 a0_0, .int .u64 a0_1], .int .i64 x10_1] rfl (by (try simp only [List.map_toArray, List.map_cons, List.map_nil]); first | done | rfl | (simp only [List.length_drop, List.length_take]; rfl)) ?_; (with_reducible refine (samphireref01_bit.calls a0_0 a0_1 x10_1 t161 _ A48.out).mono ?_); rintro e w114 ⟨rfl, hb⟩; refine ⟨_, rfl, ?_⟩; have n0_ := Aside0.mk (blk_below (bT BK154.out) hb); have n1_ := Aside0.mk (blk_below (bT BK155.out) hb); have n2_ := Aside0.mk (blk_below (bT BK156.out) hb); have n3_ := Aside0.mk (blk_below (bT BK157.out) hb); have n4_ := Aside0.mk (blk_below (bT BK158.out) hb); have n5_ := Aside0.mk (blk_below (bT BK159.out) hb); have n6_ := Aside0.mk (blk_below (bT BK160.out) hb); have n7_ := Aside0.mk (below_step (bW HB.out) hb); clear BK154 BK155 BK156 BK157 BK158 BK159 BK160 HB; have BK154 := n0_; have BK155 := n1_; have BK156 := n2_; have BK157 := n3_; have BK158 := n4_; have BK159 := n5_; have BK160 := n6_; have HB := n7_; clear n0_ n1_ n2_ n3_ n4_ n5_ n6_ n7_; (try clear hb); (try clear hb2); (try clear hk); (try clear hi); have hnb115 := NB159_155.out; have hnc115 := NB155_159.out; have hnb116 := NB159_156.out; have hnc116 := NB156_159.out; have hnb117 := NB159_157.out; have hnc117 := NB157_159.out; have hnb118 := NB159_158.out; have hnc118 := NB158_159.out; have hnb119 := NB159_160.out; have hnc119 := NB160_159.out; have hcz120_0 : w114.cell? ⟨gb159, 0, none⟩ = some (.int .u64 x160000_1) := (blk_cell BK159.out 0).trans rfl; have hcz120_1 : w114.cell? ⟨gb159, 1, none⟩ = some (.int .u64 x160001_1) := (blk_cell BK159.out 1).trans rfl; have hfz120_0 := blk_frozen BK159.out 0; have hfz120_1 := blk_frozen BK159.out 1) | ((with_reducible refine gate_callee (f := 21) rfl ?_); refine goesL_ (some 32) rfl rfl Try.func21 (by kernel_rfl) rfl #[.agg #[.int .u64 x160000_1, .int .u64 x160001_1], .agg #[.int .u64 x160000_1, .int .u64 x160001_1]] rfl (by (try simp only [List.map_toArray, List.map_cons, List.map_nil]); first | done | rfl | (simp only [List.length_drop, List.length_take]; rfl)) ?_; (with_reducible refine (samphireref01_Add.calls x160000_1 x160001_1 x160000_1 x160001_1 t162 t163 t164 _ A49.out).mono ?_); rintro e w121 ⟨rfl, hb⟩; refine ⟨_, rfl, ?_⟩; have n0_ := Aside0.mk (blk_below (bT BK154.out) hb); have n1_ := Aside0.mk (blk_below (bT BK155.out) hb); have n2_ := Aside0.mk (blk_below (bT BK156.out) hb); have n3_ := Aside0.mk (blk_below (bT BK157.out) hb); have n4_ := Aside0.mk (blk_below (bT BK158.out) hb); have n5_ := Aside0.mk (blk_below (bT BK159.out) hb); have n6_ := Aside0.mk (blk_below (bT BK160.out) hb); have n7_ := Aside0.mk (below_step (bW HB.out) hb); clear BK154 BK155 BK156 BK157 BK158 BK159 BK160 HB; have BK154 := n0_; have BK155 := n1_; have BK156 := n2_; have BK157 := n3_; have BK158 := n4_; have BK159 := n5_; have BK160 := n6_; have HB := n7_; clear n0_ n1_ n2_ n3_ n4_ n5_ n6_ n7_; (try clear hb); (try clear hb2); (try clear hk); (try clear hi); have hcz122_0 : w121.cell? ⟨gb159, 0, none⟩ = some (.int .u64 x160000_1) := (blk_cell BK159.out 0).trans rfl; have hcz122_1 : w121.cell? ⟨gb159, 1, none⟩ = some (.int .u64 x160001_1) := (blk_cell BK159.out 1).trans rfl; have hfz122_0 := blk_frozen BK159.out 0; have hfz122_1 := blk_frozen BK159.out 1))
      have n0_ : Aside0 (((w121.setCell ⟨gb159, 0, none⟩ (.int .u64 t162)).setCell ⟨gb159, 1, none⟩ (.int .u64 t163)).heap[gb154]? = some (.cells #[.int .u64 a0_0, .int .u64 a0_1] 24 (0, 0))) := ⟨by (with_reducible repeat (first | refine blk_drewN ?_ _ | refine blk_drew ?_ | refine blk_alloc ?_ _)); refine blk_far ?_ NB154_159.out _; (with_reducible repeat (first | refine blk_drewN ?_ _ | refine blk_drew ?_ | refine blk_alloc ?_ _)); refine blk_far ?_ NB154_159.out _; (with_reducible repeat (first | refine blk_drewN ?_ _ | refine blk_drew ?_ | refine blk_alloc ?_ _)); exact BK154.out⟩
      have n1_ : Aside0 (((w121.setCell ⟨gb159, 0, none⟩ (.int .u64 t162)).setCell ⟨gb159, 1, none⟩ (.int .u64 t163)).heap[gb155]? = some (.cells #[.int .u64 a1_0, .int .u64 a1_1] 24 (0, 0))) := ⟨by (with_reducible repeat (first | refine blk_drewN ?_ _ | refine blk_drew ?_ | refine blk_alloc ?_ _)); refine blk_far ?_ NB155_159.out _; (with_reducible repeat (first | refine blk_drewN ?_ _ | refine blk_drew ?_ | refine blk_alloc ?_ _)); refine blk_far ?_ NB155_159.out _; (with_reducible repeat (first | refine blk_drewN ?_ _ | refine blk_drew ?_ | refine blk_alloc ?_ _)); exact BK155.out⟩
      have n2_ : Aside0 (((w121.setCell ⟨gb159, 0, none⟩ (.int .u64 t162)).setCell ⟨gb159, 1, none⟩ (.int .u64 t163)).heap[gb156]? = some (.cells #[.int .u64 0, .int .u64 0] 24 (0, 0))) := ⟨by (with_reducible repeat (first | refine blk_drewN ?_ _ | refine blk_drew ?_ | refine blk_alloc ?_ _)); refine blk_far ?_ NB156_159.out _; (with_reducible repeat (first | refine blk_drewN ?_ _ | refine blk_drew ?_ | refine blk_alloc ?_ _)); refine blk_far ?_ NB156_159.out _; (with_reducible repeat (first | refine blk_drewN ?_ _ | refine blk_drew ?_ | refine blk_alloc ?_ _)); exact BK156.out⟩
      have n3_ : Aside0 (((w121.setCell ⟨gb159, 0, none⟩ (.int .u64 t162)).setCell ⟨gb159, 1, none⟩ (.int .u64 t163)).heap[gb157]? = some (.cells #[.int .u64 0, .int .u64 0] 24 (0, 0))) := ⟨by (with_reducible repeat (first | refine blk_drewN ?_ _ | refine blk_drew ?_ | refine blk_alloc ?_ _)); refine blk_far ?_ NB157_159.out _; (with_reducible repeat (first | refine blk_drewN ?_ _ | refine blk_drew ?_ | refine blk_alloc ?_ _)); refine blk_far ?_ NB157_159.out _; (with_reducible repeat (first | refine blk_drewN ?_ _ | refine blk_drew ?_ | refine blk_alloc ?_ _)); exact BK157.out⟩
      have n4_ : Aside0 (((w121.setCell ⟨gb159, 0, none⟩ (.int .u64 t162)).setCell ⟨gb159, 1, none⟩ (.int .u64 t163)).heap[gb158]? = some (.cells #[.int .u64 0, .int .u64 0] 24 (0, 0))) := ⟨by (with_reducible repeat (first | refine blk_drewN ?_ _ | refine blk_drew ?_ | refine blk_alloc ?_ _)); refine blk_far ?_ NB158_159.out _; (with_reducible repeat (first | refine blk_drewN ?_ _ | refine blk_drew ?_ | refine blk_alloc ?_ _)); refine blk_far ?_ NB158_159.out _; (with_reducible repeat (first | refine blk_drewN ?_ _ | refine blk_drew ?_ | refine blk_alloc ?_ _)); exact BK158.out⟩
      have n5_ : Aside0 (((w121.setCell ⟨gb159, 0, none⟩ (.int .u64 t162)).setCell ⟨gb159, 1, none⟩ (.int .u64 t163)).heap[gb159]? = some (.cells #[.int .u64 t162, .int .u64 t163] 24 (0, 0))) := ⟨by (with_reducible repeat (first | refine blk_drewN ?_ _ | refine blk_drew ?_ | refine blk_alloc ?_ _)); refine blk_put (cs := #[.int .u64 t162, .int .u64 x160001_1]) ?_ 1 _ rfl; (with_reducible repeat (first | refine blk_drewN ?_ _ | refine blk_drew ?_ | refine blk_alloc ?_ _)); refine blk_put (cs := #[.int .u64 x160000_1, .int .u64 x160001_1]) ?_ 0 _ rfl; (with_reducible repeat (first | refine blk_drewN ?_ _ | refine blk_drew ?_ | refine blk_alloc ?_ _)); exact BK159.out⟩
      have n6_ : Aside0 (((w121.setCell ⟨gb159, 0, none⟩ (.int .u64 t162)).setCell ⟨gb159, 1, none⟩ (.int .u64 t163)).heap[gb160]? = some (.cells #[.int .u64 x161000_1, .int .u64 x161001_1] 24 (0, 0))) := ⟨by (with_reducible repeat (first | refine blk_drewN ?_ _ | refine blk_drew ?_ | refine blk_alloc ?_ _)); refine blk_far ?_ NB160_159.out _; (with_reducible repeat (first | refine blk_drewN ?_ _ | refine blk_drew ?_ | refine blk_alloc ?_ _)); refine blk_far ?_ NB160_159.out _; (with_reducible repeat (first | refine blk_drewN ?_ _ | refine blk_drew ?_ | refine blk_alloc ?_ _)); exact BK160.out⟩
      have n7_ : Aside0 (Below w.heap.size w ((w121.setCell ⟨gb159, 0, none⟩ (.int .u64 t162)).setCell ⟨gb159, 1, none⟩ (.int .u64 t163))) := ⟨by repeat (first | (with_reducible first | exact HB.out | apply below_alloc | apply pw_below_drewN | apply below_drew1 | refine below_set ?_ GE154.out | refine below_set ?_ GE155.out | refine below_set ?_ GE156.out | refine below_set ?_ GE157.out | refine below_set ?_ GE158.out | refine below_set ?_ GE159.out | refine below_set ?_ GE160.out) | exact HB.out)⟩
      (try clear BK154)
      (try clear BK155)
      (try clear BK156)
      (try clear BK157)
      (try clear BK158)
      (try clear BK159)
      (try clear BK160)
      (try clear HB)
      generalize ((w121.setCell ⟨gb159, 0, none⟩ (.int .u64 t162)).setCell ⟨gb159, 1, none⟩ (.int .u64 t163)) = w123 at n0_ n1_ n2_ n3_ n4_ n5_ n6_ n7_ ⊢
      have BK154 := n0_
      have BK155 := n1_
      have BK156 := n2_
      have BK157 := n3_
      have BK158 := n4_
      have BK159 := n5_
      have BK160 := n6_
      have HB := n7_
      clear n0_ n1_ n2_ n3_ n4_ n5_ n6_ n7_
      have n0_ := Aside0.mk (blk_drew BK154.out)
      have n1_ := Aside0.mk (blk_drew BK155.out)
      have n2_ := Aside0.mk (blk_drew BK156.out)
      have n3_ := Aside0.mk (blk_drew BK157.out)
      have n4_ := Aside0.mk (blk_drew BK158.out)
      have n5_ := Aside0.mk (blk_drew BK159.out)
      have n6_ := Aside0.mk (blk_drew BK160.out)
      have n7_ := Aside0.mk (below_drew1 HB.out)
      clear BK154 BK155 BK156 BK157 BK158 BK159 BK160 HB
      have BK154 := n0_
      have BK155 := n1_
      have BK156 := n2_
      have BK157 := n3_
      have BK158 := n4_
      have BK159 := n5_
      have BK160 := n6_
      have HB := n7_
      clear n0_ n1_ n2_ n3_ n4_ n5_ n6_ n7_
      refine start_ (n := 6) (S := fun w' => w'.cell? ⟨gb160, 0, none⟩ = some (.int .u64 x161000_1) ∧ w'.cell? ⟨gb160, 1, none⟩ = some (.int .u64 x161001_1) ∧ w'.cell? ⟨gb155, 0, none⟩ = some (.int .u64 a1_0) ∧ w'.cell? ⟨gb155, 1, none⟩ = some (.int .u64 a1_1)) (ds := []) #[false, false, false, false, false, false] (by kernel_rfl) rfl rfl ⟨(blk_cell BK160.out 0).trans rfl, (blk_cell BK160.out 1).trans rfl, (blk_cell BK155.out 0).trans rfl, (blk_cell BK155.out 1).trans rfl⟩ (fun hHeld => ?_)
      generalize w123.drew = w124 at BK154 BK155 BK156 BK157 BK158 BK159 BK160 HB hHeld ⊢
      refine pure_ (i := 2) (N := some 37) (v := ?_) (a' := ?_) #[false, false, true, false, false, false] rfl rfl (by kernel_rfl) (fun _ _ _ h => h) (Or.inl ⟨by rfl, ?_⟩) ?_ ?_
      rotate_left
      ·
       intro w'
       go_simp
       with_reducible rfl
      rotate_left
      ·
       simp only [Act.put, List.setIfInBounds_toArray, List.set_cons_zero, List.set_cons_succ, i64_w, i32_w]
       rfl
      refine take_ (i := 0) (N := some 35) (v := ?_) (a' := ?_) #[true, false, true, false, false, false] rfl rfl (by kernel_rfl) (fun _ _ _ h => h) (Or.inl ⟨by rfl, ?_⟩) hHeld ?_ ?_
      rotate_left
      ·
       rintro w' ⟨s0, s1, s2, s3⟩
       go_simp
       with_reducible rfl
      rotate_left
      ·
       simp only [Act.put, List.setIfInBounds_toArray, List.set_cons_zero, List.set_cons_succ, i64_w, i32_w]
       rfl
      refine take_ (i := 1) (N := some 36) (v := ?_) (a' := ?_) #[true, true, true, false, false, false] rfl rfl (by kernel_rfl) (fun _ _ _ h => h) (Or.inl ⟨by rfl, ?_⟩) hHeld ?_ ?_
      rotate_left
      ·
       rintro w' ⟨s0, s1, s2, s3⟩
       go_simp
       with_reducible rfl
      rotate_left
      ·
       simp only [Act.put, List.setIfInBounds_toArray, List.set_cons_zero, List.set_cons_succ, i64_w, i32_w]
       rfl
      refine one_ (i := 3) (N := some 38) #[true, true, true, true, false, false] rfl rfl (by kernel_rfl) (by decide) (fun K hK => ?_)
      refine goes_ Try.func38 (by kernel_rfl) rfl #[.agg #[.int .u64 a1_0, .int .u64 a1_1], .int .u64 t161] (by rfl) rfl rfl (by (try simp only [List.map_toArray, List.map_cons, List.map_nil]); first | done | rfl | (simp only [List.length_drop, List.length_take]; rfl)) ?_
      with_reducible refine (samphireref01_halfUp.calls a1_0 a1_1 t161 t165 t166 _ A50.out).mono ?_
      rintro e w125 ⟨rfl, hb⟩
      refine ⟨_, rfl, ?_⟩
      have n0_ := Aside0.mk (blk_below (bT BK154.out) hb)
      have n1_ := Aside0.mk (blk_below (bT BK155.out) hb)
      have n2_ := Aside0.mk (blk_below (bT BK156.out) hb)
      have n3_ := Aside0.mk (blk_below (bT BK157.out) hb)
      have n4_ := Aside0.mk (blk_below (bT BK158.out) hb)
      have n5_ := Aside0.mk (blk_below (bT BK159.out) hb)
      have n6_ := Aside0.mk (blk_below (bT BK160.out) hb)
      have n7_ := Aside0.mk (below_step (bW HB.out) hb)
      clear BK154 BK155 BK156 BK157 BK158 BK159 BK160 HB
      have BK154 := n0_
      have BK155 := n1_
      have BK156 := n2_
      have BK157 := n3_
      have BK158 := n4_
      have BK159 := n5_
      have BK160 := n6_
      have HB := n7_
      clear n0_ n1_ n2_ n3_ n4_ n5_ n6_ n7_
      (try clear hb)
      (try clear hb2)
      (try clear hk)
      (try clear hi)
      refine hK.out _ _ ⟨(blk_cell BK160.out 0).trans rfl, (blk_cell BK160.out 1).trans rfl, (blk_cell BK155.out 0).trans rfl, (blk_cell BK155.out 1).trans rfl⟩ (fun hHeld => ?_)
      clear hK K
      refine norm_ (a' := ?_) ?_ ?_
      rotate_left
      ·
       show Act.put _ (some 38) _ = _
       simp only [Act.put, List.setIfInBounds_toArray, List.set_cons_zero, List.set_cons_succ, i64_w, i32_w]
       rfl
      refine one_ (i := 4) (N := some 39) #[true, true, true, true, true, false] rfl rfl (by kernel_rfl) (by decide) (fun K hK => ?_)
      refine goes_ Try.func25 (by kernel_rfl) rfl #[.agg #[.int .u64 x161000_1, .int .u64 x161001_1], .agg #[.int .u64 t165, .int .u64 t166]] (by rfl) rfl rfl (by (try simp only [List.map_toArray, List.map_cons, List.map_nil]); first | done | rfl | (simp only [List.length_drop, List.length_take]; rfl)) ?_
      with_reducible refine (samphireref01_Cmp.calls x161000_1 x161001_1 t165 t166 t167 _ A51.out).mono ?_
      rintro e w126 ⟨rfl, hb⟩
      refine ⟨_, rfl, ?_⟩
      have n0_ := Aside0.mk (blk_below (bT BK154.out) hb)
      have n1_ := Aside0.mk (blk_below (bT BK155.out) hb)
      have n2_ := Aside0.mk (blk_below (bT BK156.out) hb)
      have n3_ := Aside0.mk (blk_below (bT BK157.out) hb)
      have n4_ := Aside0.mk (blk_below (bT BK158.out) hb)
      have n5_ := Aside0.mk (blk_below (bT BK159.out) hb)
      have n6_ := Aside0.mk (blk_below (bT BK160.out) hb)
      have n7_ := Aside0.mk (below_step (bW HB.out) hb)
      clear BK154 BK155 BK156 BK157 BK158 BK159 BK160 HB
      have BK154 := n0_
      have BK155 := n1_
      have BK156 := n2_
      have BK157 := n3_
      have BK158 := n4_
      have BK159 := n5_
      have BK160 := n6_
      have HB := n7_
      clear n0_ n1_ n2_ n3_ n4_ n5_ n6_ n7_
      (try clear hb)
      (try clear hb2)
      (try clear hk)
      (try clear hi)
      refine hK.out _ _ ⟨(blk_cell BK160.out 0).trans rfl, (blk_cell BK160.out 1).trans rfl, (blk_cell BK155.out 0).trans rfl, (blk_cell BK155.out 1).trans rfl⟩ (fun hHeld => ?_)
      clear hK K
      refine norm_ (a' := ?_) ?_ ?_
      rotate_left
      ·
       show Act.put _ (some 39) _ = _
       simp only [Act.put, List.setIfInBounds_toArray, List.set_cons_zero, List.set_cons_succ, i64_w, i32_w]
       rfl
      refine pure_ (i := 5) (N := some 40) (v := ?_) (a' := ?_) #[true, true, true, true, true, true] rfl rfl (by kernel_rfl) (fun _ _ _ h => h) (Or.inl ⟨by rfl, ?_⟩) ?_ ?_
      rotate_left
      ·
       intro w'
       go_simp
       with_reducible rfl
      rotate_left
      ·
       simp only [Act.put, List.setIfInBounds_toArray, List.set_cons_zero, List.set_cons_succ, i64_w, i32_w]
       rfl
      refine done_ (by kernel_rfl) ?_
      have hnb127 := NB160_155.out
      have hnc127 := NB155_160.out
      have hnb128 := NB160_156.out
      have hnc128 := NB156_160.out
      have hnb129 := NB160_157.out
      have hnc129 := NB157_160.out
      have hnb130 := NB160_158.out
      have hnc130 := NB158_160.out
      have hcz131_0 : w126.cell? ⟨gb160, 0, none⟩ = some (.int .u64 x161000_1) := (blk_cell BK160.out 0).trans rfl
      have hcz131_1 : w126.cell? ⟨gb160, 1, none⟩ = some (.int .u64 x161001_1) := (blk_cell BK160.out 1).trans rfl
      have hfz131_0 := blk_frozen BK160.out 0
      have hfz131_1 := blk_frozen BK160.out 1
      try go_wp2_with (first | ((with_reducible refine gate_callee (f := 21) rfl ?_); refine goesL_ (some 69) rfl rfl Try.func21 (by kernel_rfl) rfl #[.agg #[.int .u64 x161000_1, .int .u64 x161001_1], .agg #[.int .u64 x161000_1, .int .u64 x161001_1]] rfl (by (try simp only [List.map_toArray, List.map_cons, List.map_nil]); first | done | rfl | (simp only [List.length_drop, List.length_take]; rfl)) ?_; (with_reducible refine (samphireref01_Add.calls x161000_1 x161001_1 x161000_1 x161001_1 t181 t182 t183 _ A105.out).mono ?_); rintro e w132 ⟨rfl, hb⟩; refine ⟨_, rfl, ?_⟩; have n0_ := Aside0.mk (blk_below (bT BK154.out) hb); have n1_ := Aside0.mk (blk_below (bT BK155.out) hb); have n2_ := Aside0.mk (blk_below (bT BK156.out) hb); have n3_ := Aside0.mk (blk_below (bT BK157.out) hb); have n4_ := Aside0.mk (blk_below (bT BK158.out) hb); have n5_ := Aside0.mk (blk_below (bT BK159.out) hb); have n6_ := Aside0.mk (blk_below (bT BK160.out) hb); have n7_ := Aside0.mk (below_step (bW HB.out) hb); clear BK154 BK155 BK156 BK157 BK158 BK159 BK160 HB; have BK154 := n0_; have BK155 := n1_; have BK156 := n2_; have BK157 := n3_; have BK158 := n4_; have BK159 := n5_; have BK160 := n6_; have HB := n7_; clear n0_ n1_ n2_ n3_ n4_ n5_ n6_ n7_; (try clear hb); (try clear hb2); (try clear hk); (try clear hi); have hcz133_0 : w132.cell? ⟨gb160, 0, none⟩ = some (.int .u64 x161000_1) := (blk_cell BK160.out 0).trans rfl; have hcz133_1 : w132.cell? ⟨gb160, 1, none⟩ = some (.int .u64 x161001_1) := (blk_cell BK160.out 1).trans rfl; have hfz133_0 := blk_frozen BK160.out 0; have hfz133_1 := blk_frozen BK160.out 1) | ((with_reducible refine gate_callee (f := 21) rfl ?_); refine goesL_ (some 76) rfl rfl Try.func21 (by kernel_rfl) rfl #[.agg #[.int .u64 t181, .int .u64 t182], .agg #[.int .u64 0, .int .u64 t161]] rfl (by (try simp only [List.map_toArray, List.map_cons, List.map_nil]); first | done | rfl | (simp only [List.length_drop, List.length_take]; rfl)) ?_; (with_reducible refine (samphireref01_Add.calls t181 t182 0 t161 t184 t185 t186 _ A106.out).mono ?_); rintro e w134 ⟨rfl, hb⟩; refine ⟨_, rfl, ?_⟩; have n0_ := Aside0.mk (blk_below (g := gb154) (o := .cells #[.int .u64 a0_0, .int .u64 a0_1] 24 (0, 0)) (by (with_reducible repeat (first | refine blk_drewN ?_ _ | refine blk_drew ?_ | refine blk_alloc ?_ _)); refine blk_far ?_ NB154_160.out _; (with_reducible repeat (first | refine blk_drewN ?_ _ | refine blk_drew ?_ | refine blk_alloc ?_ _)); refine blk_far ?_ NB154_160.out _; (with_reducible repeat (first | refine blk_drewN ?_ _ | refine blk_drew ?_ | refine blk_alloc ?_ _)); exact BK154.out) hb); have n1_ := Aside0.mk (blk_below (g := gb155) (o := .cells #[.int .u64 a1_0, .int .u64 a1_1] 24 (0, 0)) (by (with_reducible repeat (first | refine blk_drewN ?_ _ | refine blk_drew ?_ | refine blk_alloc ?_ _)); refine blk_far ?_ NB155_160.out _; (with_reducible repeat (first | refine blk_drewN ?_ _ | refine blk_drew ?_ | refine blk_alloc ?_ _)); refine blk_far ?_ NB155_160.out _; (with_reducible repeat (first | refine blk_drewN ?_ _ | refine blk_drew ?_ | refine blk_alloc ?_ _)); exact BK155.out) hb); have n2_ := Aside0.mk (blk_below (g := gb156) (o := .cells #[.int .u64 0, .int .u64 0] 24 (0, 0)) (by (with_reducible repeat (first | refine blk_drewN ?_ _ | refine blk_drew ?_ | refine blk_alloc ?_ _)); refine blk_far ?_ NB156_160.out _; (with_reducible repeat (first | refine blk_drewN ?_ _ | refine blk_drew ?_ | refine blk_alloc ?_ _)); refine blk_far ?_ NB156_160.out _; (with_reducible repeat (first | refine blk_drewN ?_ _ | refine blk_drew ?_ | refine blk_alloc ?_ _)); exact BK156.out) hb); have n3_ := Aside0.mk (blk_below (g := gb157) (o := .cells #[.int .u64 0, .int .u64 0] 24 (0, 0)) (by (with_reducible repeat (first | refine blk_drewN ?_ _ | refine blk_drew ?_ | refine blk_alloc ?_ _)); refine blk_far ?_ NB157_160.out _; (with_reducible repeat (first | refine blk_drewN ?_ _ | refine blk_drew ?_ | refine blk_alloc ?_ _)); refine blk_far ?_ NB157_160.out _; (with_reducible repeat (first | refine blk_drewN ?_ _ | refine blk_drew ?_ | refine blk_alloc ?_ _)); exact BK157.out) hb); have n4_ := Aside0.mk (blk_below (g := gb158) (o := .cells #[.int .u64 0, .int .u64 0] 24 (0, 0)) (by (with_reducible repeat (first | refine blk_drewN ?_ _ | refine blk_drew ?_ | refine blk_alloc ?_ _)); refine blk_far ?_ NB158_160.out _; (with_reducible repeat (first | refine blk_drewN ?_ _ | refine blk_drew ?_ | refine blk_alloc ?_ _)); refine blk_far ?_ NB158_160.out _; (with_reducible repeat (first | refine blk_drewN ?_ _ | refine blk_drew ?_ | refine blk_alloc ?_ _)); exact BK158.out) hb); have n5_ := Aside0.mk (blk_below (g := gb159) (o := .cells #[.int .u64 t162, .int .u64 t163] 24 (0, 0)) (by (with_reducible repeat (first | refine blk_drewN ?_ _ | refine blk_drew ?_ | refine blk_alloc ?_ _)); refine blk_far ?_ NB159_160.out _; (with_reducible repeat (first | refine blk_drewN ?_ _ | refine blk_drew ?_ | refine blk_alloc ?_ _)); refine blk_far ?_ NB159_160.out _; (with_reducible repeat (first | refine blk_drewN ?_ _ | refine blk_drew ?_ | refine blk_alloc ?_ _)); exact BK159.out) hb); have n6_ := Aside0.mk (blk_below (g := gb160) (o := .cells #[.int .u64 t181, .int .u64 t182] 24 (0, 0)) (by (with_reducible repeat (first | refine blk_drewN ?_ _ | refine blk_drew ?_ | refine blk_alloc ?_ _)); refine blk_put (cs := #[.int .u64 t181, .int .u64 x161001_1]) ?_ 1 _ rfl; (with_reducible repeat (first | refine blk_drewN ?_ _ | refine blk_drew ?_ | refine blk_alloc ?_ _)); refine blk_put (cs := #[.int .u64 x161000_1, .int .u64 x161001_1]) ?_ 0 _ rfl; (with_reducible repeat (first | refine blk_drewN ?_ _ | refine blk_drew ?_ | refine blk_alloc ?_ _)); exact BK160.out) hb); have n7_ := Aside0.mk (below_step (bW HB.out) hb); clear BK154 BK155 BK156 BK157 BK158 BK159 BK160 HB; have BK154 := n0_; have BK155 := n1_; have BK156 := n2_; have BK157 := n3_; have BK158 := n4_; have BK159 := n5_; have BK160 := n6_; have HB := n7_; clear n0_ n1_ n2_ n3_ n4_ n5_ n6_ n7_; (try clear hb); (try clear hb2); (try clear hk); (try clear hi); have hcz135_0 : w134.cell? ⟨gb160, 0, none⟩ = some (.int .u64 t181) := (blk_cell BK160.out 0).trans rfl; have hcz135_1 : w134.cell? ⟨gb160, 1, none⟩ = some (.int .u64 t182) := (blk_cell BK160.out 1).trans rfl; have hfz135_0 := blk_frozen BK160.out 0; have hfz135_1 := blk_frozen BK160.out 1))
      go_roundg k1
      case measure => have := HK1.out; omega
      case rel => exact ⟨(wrap64 (x10_1 - 1)), (t162), (t163), (t184), (t185), (by first | rfl | (simp; done) | (simp [*]; done)), H', ⟨by have := HK1.out; omega⟩, ⟨by (with_reducible repeat (first | refine blk_drewN ?_ _ | refine blk_drew ?_ | refine blk_alloc ?_ _)); refine blk_far ?_ NB154_160.out _; (with_reducible repeat (first | refine blk_drewN ?_ _ | refine blk_drew ?_ | refine blk_alloc ?_ _)); refine blk_far ?_ NB154_160.out _; (with_reducible repeat (first | refine blk_drewN ?_ _ | refine blk_drew ?_ | refine blk_alloc ?_ _)); exact BK154.out⟩, ⟨by (with_reducible repeat (first | refine blk_drewN ?_ _ | refine blk_drew ?_ | refine blk_alloc ?_ _)); refine blk_far ?_ NB155_160.out _; (with_reducible repeat (first | refine blk_drewN ?_ _ | refine blk_drew ?_ | refine blk_alloc ?_ _)); refine blk_far ?_ NB155_160.out _; (with_reducible repeat (first | refine blk_drewN ?_ _ | refine blk_drew ?_ | refine blk_alloc ?_ _)); exact BK155.out⟩, ⟨by (with_reducible repeat (first | refine blk_drewN ?_ _ | refine blk_drew ?_ | refine blk_alloc ?_ _)); refine blk_far ?_ NB156_160.out _; (with_reducible repeat (first | refine blk_drewN ?_ _ | refine blk_drew ?_ | refine blk_alloc ?_ _)); refine blk_far ?_ NB156_160.out _; (with_reducible repeat (first | refine blk_drewN ?_ _ | refine blk_drew ?_ | refine blk_alloc ?_ _)); exact BK156.out⟩, ⟨by (with_reducible repeat (first | refine blk_drewN ?_ _ | refine blk_drew ?_ | refine blk_alloc ?_ _)); refine blk_far ?_ NB157_160.out _; (with_reducible repeat (first | refine blk_drewN ?_ _ | refine blk_drew ?_ | refine blk_alloc ?_ _)); refine blk_far ?_ NB157_160.out _; (with_reducible repeat (first | refine blk_drewN ?_ _ | refine blk_drew ?_ | refine blk_alloc ?_ _)); exact BK157.out⟩, ⟨by (with_reducible repeat (first | refine blk_drewN ?_ _ | refine blk_drew ?_ | refine blk_alloc ?_ _)); refine blk_far ?_ NB158_160.out _; (with_reducible repeat (first | refine blk_drewN ?_ _ | refine blk_drew ?_ | refine blk_alloc ?_ _)); refine blk_far ?_ NB158_160.out _; (with_reducible repeat (first | refine blk_drewN ?_ _ | refine blk_drew ?_ | refine blk_alloc ?_ _)); exact BK158.out⟩, ⟨by (with_reducible repeat (first | refine blk_drewN ?_ _ | refine blk_drew ?_ | refine blk_alloc ?_ _)); refine blk_far ?_ NB159_160.out _; (with_reducible repeat (first | refine blk_drewN ?_ _ | refine blk_drew ?_ | refine blk_alloc ?_ _)); refine blk_far ?_ NB159_160.out _; (with_reducible repeat (first | refine blk_drewN ?_ _ | refine blk_drew ?_ | refine blk_alloc ?_ _)); exact BK159.out⟩, ⟨by (with_reducible repeat (first | refine blk_drewN ?_ _ | refine blk_drew ?_ | refine blk_alloc ?_ _)); refine blk_put (cs := #[.int .u64 t184, .int .u64 t182]) ?_ 1 _ rfl; (with_reducible repeat (first | refine blk_drewN ?_ _ | refine blk_drew ?_ | refine blk_alloc ?_ _)); refine blk_put (cs := #[.int .u64 t181, .int .u64 t182]) ?_ 0 _ rfl; (with_reducible repeat (first | refine blk_drewN ?_ _ | refine blk_drew ?_ | refine blk_alloc ?_ _)); exact BK160.out⟩, ⟨by repeat (first | (with_reducible first | exact HB.out | apply below_alloc | apply pw_below_drewN | apply below_drew1 | refine below_set ?_ GE154.out | refine below_set ?_ GE155.out | refine below_set ?_ GE156.out | refine below_set ?_ GE157.out | refine below_set ?_ GE158.out | refine below_set ?_ GE159.out | refine below_set ?_ GE160.out) | exact HB.out)⟩⟩
    ·
     rw [if_neg c47] at H
     have c47b0 : decide (0 ≤ x10_1) = false := decide_eq_false c47
     clear c47
     simp only [Option.some.injEq, Prod.mk.injEq] at H
     obtain ⟨rfl, rfl, rfl, rfl, rfl⟩ := H
     try go_wp2
     have n0_ := Aside0.mk (blk_drew BK154.out)
     have n1_ := Aside0.mk (blk_drew BK155.out)
     have n2_ := Aside0.mk (blk_drew BK156.out)
     have n3_ := Aside0.mk (blk_drew BK157.out)
     have n4_ := Aside0.mk (blk_drew BK158.out)
     have n5_ := Aside0.mk (blk_drew BK159.out)
     have n6_ := Aside0.mk (blk_drew BK160.out)
     have n7_ := Aside0.mk (below_drew1 HB.out)
     clear BK154 BK155 BK156 BK157 BK158 BK159 BK160 HB
     have BK154 := n0_
     have BK155 := n1_
     have BK156 := n2_
     have BK157 := n3_
     have BK158 := n4_
     have BK159 := n5_
     have BK160 := n6_
     have HB := n7_
     clear n0_ n1_ n2_ n3_ n4_ n5_ n6_ n7_
     refine start_ (n := 5) (S := fun w' => w'.cell? ⟨gb159, 0, none⟩ = some (.int .u64 x160000_1) ∧ w'.cell? ⟨gb159, 1, none⟩ = some (.int .u64 x160001_1) ∧ w'.cell? ⟨gb160, 0, none⟩ = some (.int .u64 x161000_1) ∧ w'.cell? ⟨gb160, 1, none⟩ = some (.int .u64 x161001_1)) (ds := []) #[false, false, false, false, false] (by kernel_rfl) rfl rfl ⟨(blk_cell BK159.out 0).trans rfl, (blk_cell BK159.out 1).trans rfl, (blk_cell BK160.out 0).trans rfl, (blk_cell BK160.out 1).trans rfl⟩ (fun hHeld => ?_)
     generalize wr.drew = w136 at BK154 BK155 BK156 BK157 BK158 BK159 BK160 HB hHeld ⊢
     refine take_ (i := 0) (N := some 79) (v := ?_) (a' := ?_) #[true, false, false, false, false] rfl rfl (by kernel_rfl) (fun _ _ _ h => h) (Or.inl ⟨by rfl, ?_⟩) hHeld ?_ ?_
     rotate_left
     ·
      rintro w' ⟨s0, s1, s2, s3⟩
      go_simp
      with_reducible rfl
     rotate_left
     ·
      simp only [Act.put, List.setIfInBounds_toArray, List.set_cons_zero, List.set_cons_succ, i64_w, i32_w]
      rfl
     refine take_ (i := 1) (N := some 80) (v := ?_) (a' := ?_) #[true, true, false, false, false] rfl rfl (by kernel_rfl) (fun _ _ _ h => h) (Or.inl ⟨by rfl, ?_⟩) hHeld ?_ ?_
     rotate_left
     ·
      rintro w' ⟨s0, s1, s2, s3⟩
      go_simp
      with_reducible rfl
     rotate_left
     ·
      simp only [Act.put, List.setIfInBounds_toArray, List.set_cons_zero, List.set_cons_succ, i64_w, i32_w]
      rfl
     refine one_ (i := 2) (N := none) #[true, true, true, false, false] rfl rfl (by kernel_rfl) (by decide) (fun K hK => ?_)
     have hs137 : w136.cell? ⟨gb156, 0, none⟩ = some (.int .u64 0) := (blk_cell BK156.out 0).trans rfl
     have hfs137 := blk_frozen BK156.out 0
     have hns137_0 := NB154_156.out
     have hns137_1 := NB155_156.out
     have hns137_3 := NB157_156.out
     have hns137_4 := NB158_156.out
     have hns137_5 := NB159_156.out
     have hns137_6 := NB160_156.out
     have hms137_0 := NB156_154.out
     have hms137_1 := NB156_155.out
     have hms137_3 := NB156_157.out
     have hms137_4 := NB156_158.out
     have hms137_5 := NB156_159.out
     have hms137_6 := NB156_160.out
     have hs138 : w136.cell? ⟨gb156, 1, none⟩ = some (.int .u64 0) := (blk_cell BK156.out 1).trans rfl
     have hfs138 := blk_frozen BK156.out 1
     have hns138_0 := NB154_156.out
     have hns138_1 := NB155_156.out
     have hns138_3 := NB157_156.out
     have hns138_4 := NB158_156.out
     have hns138_5 := NB159_156.out
     have hns138_6 := NB160_156.out
     have hms138_0 := NB156_154.out
     have hms138_1 := NB156_155.out
     have hms138_3 := NB156_157.out
     have hms138_4 := NB156_158.out
     have hms138_5 := NB156_159.out
     have hms138_6 := NB156_160.out
     refine skip_ (w1 := ?_) (by rfl) rfl ?_ ?_
     rotate_left
     ·
      go_simp
      rfl
     refine hK.out _ _ ⟨((cell_far (p := ⟨gb156, _, none⟩) NB159_156.out _).trans (((cell_far (p := ⟨gb156, _, none⟩) NB159_156.out _).trans (hHeld.1)))), ((cell_far (p := ⟨gb156, _, none⟩) NB159_156.out _).trans (((cell_far (p := ⟨gb156, _, none⟩) NB159_156.out _).trans (hHeld.2.1)))), ((cell_far (p := ⟨gb156, _, none⟩) NB160_156.out _).trans (((cell_far (p := ⟨gb156, _, none⟩) NB160_156.out _).trans (hHeld.2.2.1)))), ((cell_far (p := ⟨gb156, _, none⟩) NB160_156.out _).trans (((cell_far (p := ⟨gb156, _, none⟩) NB160_156.out _).trans (hHeld.2.2.2))))⟩ (fun hHeld => ?_)
     clear hK K
     refine one_ (i := 3) (N := none) #[true, true, true, true, false] rfl rfl (by kernel_rfl) (by decide) (fun K hK => ?_)
     have hs139 : w136.cell? ⟨gb157, 0, none⟩ = some (.int .u64 0) := (blk_cell BK157.out 0).trans rfl
     have hfs139 := blk_frozen BK157.out 0
     have hns139_0 := NB154_157.out
     have hns139_1 := NB155_157.out
     have hns139_2 := NB156_157.out
     have hns139_4 := NB158_157.out
     have hns139_5 := NB159_157.out
     have hns139_6 := NB160_157.out
     have hms139_0 := NB157_154.out
     have hms139_1 := NB157_155.out
     have hms139_2 := NB157_156.out
     have hms139_4 := NB157_158.out
     have hms139_5 := NB157_159.out
     have hms139_6 := NB157_160.out
     have hs140 : w136.cell? ⟨gb157, 1, none⟩ = some (.int .u64 0) := (blk_cell BK157.out 1).trans rfl
     have hfs140 := blk_frozen BK157.out 1
     have hns140_0 := NB154_157.out
     have hns140_1 := NB155_157.out
     have hns140_2 := NB156_157.out
     have hns140_4 := NB158_157.out
     have hns140_5 := NB159_157.out
     have hns140_6 := NB160_157.out
     have hms140_0 := NB157_154.out
     have hms140_1 := NB157_155.out
     have hms140_2 := NB157_156.out
     have hms140_4 := NB157_158.out
     have hms140_5 := NB157_159.out
     have hms140_6 := NB157_160.out
     refine skip_ (w1 := ?_) (by rfl) rfl ?_ ?_
     rotate_left
     ·
      go_simp
      rfl
     refine hK.out _ _ ⟨((cell_far (p := ⟨gb157, _, none⟩) NB159_157.out _).trans (((cell_far (p := ⟨gb157, _, none⟩) NB159_157.out _).trans (hHeld.1)))), ((cell_far (p := ⟨gb157, _, none⟩) NB159_157.out _).trans (((cell_far (p := ⟨gb157, _, none⟩) NB159_157.out _).trans (hHeld.2.1)))), ((cell_far (p := ⟨gb157, _, none⟩) NB160_157.out _).trans (((cell_far (p := ⟨gb157, _, none⟩) NB160_157.out _).trans (hHeld.2.2.1)))), ((cell_far (p := ⟨gb157, _, none⟩) NB160_157.out _).trans (((cell_far (p := ⟨gb157, _, none⟩) NB160_157.out _).trans (hHeld.2.2.2))))⟩ (fun hHeld => ?_)
     clear hK K
     refine pure_ (i := 4) (N := some 6) (v := ?_) (a' := ?_) #[true, true, true, true, true] rfl rfl (by kernel_rfl) (fun _ _ _ h => h) (Or.inl ⟨by rfl, ?_⟩) ?_ ?_
     rotate_left
     ·
      intro w'
      go_simp
      with_reducible rfl
     rotate_left
     ·
      simp only [Act.put, List.setIfInBounds_toArray, List.set_cons_zero, List.set_cons_succ, i64_w, i32_w]
      rfl
     refine done_ (by kernel_rfl) ?_
     try go_wp2
     refine bodyPost_ret (results_list (rs := [.cell 4 24, .cell 5 24, .tmp 6]) rfl (by simp) (.cell gb156 24 #[.int .u64 x160000_1, .int .u64 x160001_1] (0, 0) _ rfl (by (with_reducible repeat (first | refine blk_drewN ?_ _ | refine blk_drew ?_ | refine blk_alloc ?_ _)); refine blk_far ?_ NB156_157.out _; (with_reducible repeat (first | refine blk_drewN ?_ _ | refine blk_drew ?_ | refine blk_alloc ?_ _)); refine blk_far ?_ NB156_157.out _; (with_reducible repeat (first | refine blk_drewN ?_ _ | refine blk_drew ?_ | refine blk_alloc ?_ _)); refine blk_put (cs := #[.int .u64 x160000_1, .int .u64 0]) ?_ 1 _ rfl; (with_reducible repeat (first | refine blk_drewN ?_ _ | refine blk_drew ?_ | refine blk_alloc ?_ _)); refine blk_put (cs := #[.int .u64 0, .int .u64 0]) ?_ 0 _ rfl; (with_reducible repeat (first | refine blk_drewN ?_ _ | refine blk_drew ?_ | refine blk_alloc ?_ _)); exact BK156.out) Try.underlying24 rfl (by kernel_rfl) (.cell gb157 24 #[.int .u64 x161000_1, .int .u64 x161001_1] (0, 0) _ rfl (by (with_reducible repeat (first | refine blk_drewN ?_ _ | refine blk_drew ?_ | refine blk_alloc ?_ _)); refine blk_put (cs := #[.int .u64 x161000_1, .int .u64 0]) ?_ 1 _ rfl; (with_reducible repeat (first | refine blk_drewN ?_ _ | refine blk_drew ?_ | refine blk_alloc ?_ _)); refine blk_put (cs := #[.int .u64 0, .int .u64 0]) ?_ 0 _ rfl; (with_reducible repeat (first | refine blk_drewN ?_ _ | refine blk_drew ?_ | refine blk_alloc ?_ _)); refine blk_far ?_ NB157_156.out _; (with_reducible repeat (first | refine blk_drewN ?_ _ | refine blk_drew ?_ | refine blk_alloc ?_ _)); refine blk_far ?_ NB157_156.out _; (with_reducible repeat (first | refine blk_drewN ?_ _ | refine blk_drew ?_ | refine blk_alloc ?_ _)); exact BK157.out) Try.underlying24 rfl (by kernel_rfl) (.tmp .nil)))) rfl ?_
     exact ⟨by first | rfl | (simp [errW_none, errW_some] <;> rfl) | (simp [*, errW_none, errW_some] <;> rfl), by repeat (first | (with_reducible first | exact HB.out | apply below_alloc | apply pw_below_drewN | apply below_drew1 | refine below_set ?_ GE154.out | refine below_set ?_ GE155.out | refine below_set ?_ GE156.out | refine below_set ?_ GE157.out | refine below_set ?_ GE158.out | refine below_set ?_ GE159.out | refine below_set ?_ GE160.out) | exact HB.out)⟩
end Go.Proofs.Ytbpcehbcbcojiaa.E
