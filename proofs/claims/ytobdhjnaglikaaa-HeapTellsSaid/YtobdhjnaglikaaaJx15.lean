import Derived.Test.YtobdhjnaglikaaaQx0
import Derived.Test.YtobdhjnaglikaaaQx1
import Derived.Test.YtobdhjnaglikaaaQx2
import Derived.Test.YtobdhjnaglikaaaQx3
import Derived.Test.YtobdhjnaglikaaaQx5
import Derived.Test.YtobdhjnaglikaaaQx7
import Derived.Test.YtobdhjnaglikaaaQx8
import Derived.Test.YtobdhjnaglikaaaJx9
import Derived.Test.YtobdhjnaglikaaaJx11
import Derived.Test.YtobdhjnaglikaaaJx12
import Derived.Test.YtobdhjnaglikaaaJx14
namespace Go.Proofs.Ytobdhjnaglikaaa.Q
open Go.RowKit Go.Proofs.YtobdhjnaglikaaaW.PrintWords Go.Proofs.YtobdhjnaglikaaaW.PrintLast Go.Proofs.YtobdhjnaglikaaaW.PrintMore
attribute [local go_sem] max2_int min2_int max_two min_two max_three min_three max_four min_four
set_option linter.unusedVariables false
set_option linter.unusedSimpArgs false
attribute [local go_sem high] eqA25
mutual
def samphirelaw11_HeapTells.j0 : Nat → List (S25) → Int → ByteArray → Bool → ByteArray → Int → Int → Option (Bool)
 | 0, _, _, _, _, _, _, _ => none
 | k + 1, x0, x2, x3, x34, x332000, x332001, x332002 => if x34 = true then ((samphirelaw11_awake.f k).bind fun t333 => (some t333)) else ((heap_Push.f k x0 x332000 x332001 x332002).bind fun bt334 => ((heap_Pop.f k x0).bind fun bt338 => ((heap_Put.f k x0 x2 x332000 x332001 x332002).bind fun bt346 => ((heap_Find.f k x0 x3).bind fun bt350 => ((samphireref11_Right.f k x0).bind fun t352 => (if t352 = true then ((rank_Check.f x332000 x332001 x332002).bind fun t358 => (if bt334.2 = t358 then (if t358 = 0 then ((some (([] : List (S25)) : List (S25))).bind fun y359 => (if y359.length + x0.length < 4398046511104 then ((some (y359 ++ x0 : List (S25))).bind fun y362 => ((some (([(⟨x332000, x332001, x332002⟩ : S25)] : List (S25)) : List (S25))).bind fun y365 => (if y362.length + y365.length < 4398046511104 then ((samphireref11_Lift.f k (y362 ++ y365) (x0.length : Int)).bind fun t371 => ((samphireref10_Same.f k bt334.1 t371).bind fun t374 => (samphirelaw11_HeapTells.j1 k x0 x2 x3 bt338.2.2.2.1 bt338.2.2.2.2 bt346.1 bt346.2 bt350.1 bt350.2 t358 (!t374) x332000 x332001 x332002 bt338.1 bt338.2.1 bt338.2.2.1))) else (none)))) else (none))) else ((samphireref10_Same.f k bt334.1 x0).bind fun t375 => (if t375 = true then (samphirelaw11_HeapTells.j1 k x0 x2 x3 bt338.2.2.2.1 bt338.2.2.2.2 bt346.1 bt346.2 bt350.1 bt350.2 t358 false x332000 x332001 x332002 bt338.1 bt338.2.1 bt338.2.2.1) else (none)))) else (none))) else ((heap_Right.f k x0).bind fun t353 => (if t353 = true then (none) else (if bt334.2 = 1 then (if bt338.2.2.2.2 = 1 then (if bt346.2 = 1 then ((samphireref10_Same.f k bt334.1 x0).bind fun t354 => (if t354 = true then ((samphireref10_Same.f k bt338.2.2.2.1 x0).bind fun t355 => (if t355 = true then ((samphireref10_Same.f k bt346.1 x0).bind fun t356 => (if t356 = true then (if (bt338.1.toList == ([] : List UInt8) && (bt338.2.1 == 0 && (bt338.2.2.1 == 0))) = true then (if bt350.1 = 0 then (if bt350.2 = true then (none) else ((samphirelaw11_awake.f k).bind fun t357 => (some t357))) else (none)) else (none)) else (none))) else (none))) else (none))) else (none)) else (none)) else (none))))))))))
def samphirelaw11_HeapTells.j1 : Nat → List (S25) → Int → ByteArray → List (S25) → Int → List (S25) → Int → Int → Bool → Int → Bool → ByteArray → Int → Int → ByteArray → Int → Int → Option (Bool)
 | 0, _, _, _, _, _, _, _, _, _, _, _, _, _, _, _, _, _ => none
 | k + 1, x0, x2, x3, x12, x13, x14, x15, x16, x17, x18, x142, x332000, x332001, x332002, x346000, x346001, x346002 => if x142 = true then (none) else (if (x0.length : Int) = 0 then ((heap_Right.f k x0).bind fun t376 => (if t376 = true then (if x13 = 3 then (if x15 = 3 then (if (x346000.toList == ([] : List UInt8) && (x346001 == 0 && (x346002 == 0))) = true then (if (wrap64 ((x12.length : Int) + (x14.length : Int))) = 0 then (if x16 = 0 then (if x17 = true then (none) else ((samphirelaw11_awake.f k).bind fun t377 => (some t377))) else (none)) else (none)) else (none)) else (none)) else (none)) else (none))) else (if 0 < (x0.length : Int) then (if (!(x346000.toList == (((rd_T25 x0 0).f0).toList)) || (!(x346001 == ((rd_T25 x0 0).f1)) || (!(x346002 == ((rd_T25 x0 0).f2))))) = true then (none) else (if x13 = 0 then ((samphireref11_Pop.f k x0).bind fun t379 => ((samphireref10_Same.f k x12 t379).bind fun t382 => (samphirelaw11_HeapTells.j2 k x0 x2 x3 x14 x15 x16 x17 x18 (!t382) x332000 x332001 x332002))) else (none))) else (none)))
def samphirelaw11_HeapTells.j2 : Nat → List (S25) → Int → ByteArray → List (S25) → Int → Int → Bool → Int → Bool → ByteArray → Int → Int → Option (Bool)
 | 0, _, _, _, _, _, _, _, _, _, _, _, _ => none
 | k + 1, x0, x2, x3, x14, x15, x16, x17, x18, x195, x332000, x332001, x332002 => if x195 = true then (none) else (samphirelaw11_HeapTells.l0 k x0 x2 x3 x14 x15 x16 x17 x18 (-1) (wrap64 ((x0.length : Int) - 1)) x332000 x332001 x332002)
def samphirelaw11_HeapTells.l0 : Nat → List (S25) → Int → ByteArray → List (S25) → Int → Int → Bool → Int → Int → Int → ByteArray → Int → Int → Option (Bool)
 | 0, _, _, _, _, _, _, _, _, _, _, _, _, _ => none
 | k + 1, x0, x2, x3, x14, x15, x16, x17, x18, x19, x20, x332000, x332001, x332002 => if x20 ≥ 0 then (if 0 ≤ x20 then (if x20 < (x0.length : Int) then (if ((rd_T25 x0 x20).f0).toList = x3.toList then (samphirelaw11_HeapTells.l0 k x0 x2 x3 x14 x15 x16 x17 x18 x20 (wrap64 (x20 - 1)) x332000 x332001 x332002) else (samphirelaw11_HeapTells.l0 k x0 x2 x3 x14 x15 x16 x17 x18 x19 (wrap64 (x20 - 1)) x332000 x332001 x332002)) else (none)) else (none)) else (if (x17 != (decide (x19 ≥ 0))) = true then (none) else (samphirelaw11_HeapTells.j4 k x0 x2 x14 x15 x18 (x16 != (mx x19 0)) x332000 x332001 x332002))
def samphirelaw11_HeapTells.j4 : Nat → List (S25) → Int → List (S25) → Int → Int → Bool → ByteArray → Int → Int → Option (Bool)
 | 0, _, _, _, _, _, _, _, _, _ => none
 | k + 1, x0, x2, x14, x15, x18, x220, x332000, x332001, x332002 => if x220 = true then (none) else (if x2 < 0 then (samphirelaw11_HeapTells.j5 k x0 x2 x14 x15 x18 true x332000 x332001 x332002) else (samphirelaw11_HeapTells.j5 k x0 x2 x14 x15 x18 (decide (x2 ≥ (x0.length : Int))) x332000 x332001 x332002))
def samphirelaw11_HeapTells.j5 : Nat → List (S25) → Int → List (S25) → Int → Int → Bool → ByteArray → Int → Int → Option (Bool)
 | 0, _, _, _, _, _, _, _, _, _ => none
 | k + 1, x0, x2, x14, x15, x18, x221, x332000, x332001, x332002 => if x221 = true then (if x15 = 3 then ((samphireref10_Same.f k x14 x0).bind fun t384 => (if t384 = true then ((samphirelaw11_awake.f k).bind fun t385 => (some t385)) else (none))) else (none)) else (if x18 = 0 then (if x15 = 0 then ((samphireref11_Put.f k x0 x2 x332000 x332001 x332002).bind fun t388 => ((samphireref10_Same.f k x14 t388).bind fun t391 => (if t391 = true then ((heap_Right.f k x0).bind fun t392 => (if t392 = true then ((samphirelaw11_awake.f k).bind fun t393 => (some t393)) else (none))) else (none)))) else (none)) else (if x15 = x18 then ((samphireref10_Same.f k x14 x0).bind fun t386 => (if t386 = true then ((samphirelaw11_awake.f k).bind fun t387 => (some t387)) else (none))) else (none)))
end
def samphirelaw11_HeapTells.f (k : Nat) (l0 : List (S25)) (a1_0 : ByteArray) (a1_1 : Int) (a1_2 : Int) (a2 : Int) (a3 : ByteArray) : Option (Bool) := (samphireref10_Small.f k l0).bind fun t332 => (if t332 = true then (if (a1_0.size : Int) > 100 then (samphirelaw11_HeapTells.j0 k l0 a2 a3 true a1_0 a1_1 a1_2) else (samphirelaw11_HeapTells.j0 k l0 a2 a3 (decide ((a3.size : Int) > 100)) a1_0 a1_1 a1_2)) else (samphirelaw11_HeapTells.j0 k l0 a2 a3 true a1_0 a1_1 a1_2))
def samphirelaw11_HeapTells.T10 : Bool × List (List Nat × List Nat) := (true, [([], []), ([], []), ([0, 1], [0, 1]), ([2], [2]), ([3], [3]), ([4, 3], [3, 4]), ([5, 3, 3], [3, 5]), ([6], [6]), ([6], [6]), ([7, 8, 6, 6], [6, 7, 8]), ([9, 6], [6, 9]), ([6, 10, 3], [3, 6, 10]), ([3, 11], [3, 11]), ([12, 9], [12]), ([13], [13]), ([14, 13], [13, 14]), ([15, 13, 13], [13, 15]), ([16], [16]), ([16], [16]), ([16], [16]), ([18, 19, 16, 16], [16, 18, 19]), ([16], [16]), ([21, 16], [16, 21]), ([20, 22, 20, 16], [16, 20, 22]), ([16], [16]), ([24, 16], [16, 24]), ([23, 25, 23, 16], [16, 23, 25]), ([17, 26, 26, 16], [16, 17, 26]), ([27, 16], [16, 27]), ([16, 28, 13], [13, 16, 28]), ([13, 29], [13, 29])])
def samphirelaw11_HeapTells.B10 : List Nat := [0, 0, 3, 7, 15, 31, 63, 127, 127, 511, 1023, 2047, 4095, 8191, 16383, 32767, 65535, 131071, 131071, 131071, 917503, 131071, 2228223, 8257535, 131071, 16908287, 66977791, 134217727, 268435455, 536870911, 1073741823]
theorem samphirelaw11_HeapTells.tab10 : rtab .any (opsOf Try.f3 10) = samphirelaw11_HeapTells.T10 := by kernel_rfl
theorem samphirelaw11_HeapTells.bits10 : waitsOk samphirelaw11_HeapTells.T10.2 samphirelaw11_HeapTells.B10 = true := by kernel_rfl
def samphirelaw11_HeapTells.T14 : Bool × List (List Nat × List Nat) := (true, [([], []), ([], []), ([1], [1]), ([2], [2]), ([0, 3], [0, 3]), ([4], [4]), ([5], [5]), ([6, 5], [5, 6]), ([5, 7], [5, 7]), ([8, 5], [8]), ([9], [9]), ([9], [9]), ([11, 9, 9], [9, 11]), ([10, 12, 12, 9], [9, 10, 12]), ([13, 9], [9, 13]), ([9, 14], [9, 14])])
def samphirelaw11_HeapTells.B14 : List Nat := [0, 0, 2, 6, 15, 31, 63, 127, 255, 511, 1023, 1023, 3071, 8191, 16383, 32767]
theorem samphirelaw11_HeapTells.tab14 : rtab .any (opsOf Try.f3 14) = samphirelaw11_HeapTells.T14 := by kernel_rfl
theorem samphirelaw11_HeapTells.bits14 : waitsOk samphirelaw11_HeapTells.T14.2 samphirelaw11_HeapTells.B14 = true := by kernel_rfl
set_option maxHeartbeats 8000000 in
set_option maxRecDepth 100000 in
theorem samphirelaw11_HeapTells.calls (k : Nat) (A0 : Option Addr) (c0 : Nat) (l0 : List (S25)) (a1_0 : ByteArray) (a1_1 : Int) (a1_2 : Int) (a2 : Int) (a3 : ByteArray) (r : Bool) (w : World) (hr0 : Kd.C k25 w A0 l0.length l0) (hc0 : l0.length ≤ c0) (h : samphirelaw11_HeapTells.f k l0 a1_0 a1_1 a1_2 a2 a3 = some r) :
  Calls Try.prog 3 #[.slice A0 l0.length c0, .agg #[.string a1_0, .int .u64 a1_1, .int .u64 a1_2], .int .i64 a2, .string a3] w fun e w' => e = .returned (.bool r) ∧ Below w.heap.size w w' := by
 have hu25 := Try.underlying25
 have HR0 := Aside0.mk hr0
 have HC0 := Aside0.mk hc0
 clear hr0 hc0
 have HB := Aside0.mk (Below.refl w.heap.size w)
 have H : ((samphireref10_Small.f k l0).bind fun t332 => (if t332 = true then (if (a1_0.size : Int) > 100 then (samphirelaw11_HeapTells.j0 k l0 a2 a3 true a1_0 a1_1 a1_2) else (samphirelaw11_HeapTells.j0 k l0 a2 a3 (decide ((a3.size : Int) > 100)) a1_0 a1_1 a1_2)) else (samphirelaw11_HeapTells.j0 k l0 a2 a3 true a1_0 a1_1 a1_2))) = some r := h
 clear h
 have HC5 := Aside0.mk H
 clear H
 go_enter Try.func3, Try.ntmps3
 go_upto_region 1 with (first | ((with_reducible refine gate_dst (N := 5) rfl ?_); (try (refine gate_guard (by rfl) ?_; dsimp only)); refine box_event ?hg (N := 5) ?hd (cs := #[.string a1_0, .int .u64 a1_1, .int .u64 a1_2]) (t := 25) ?hr ?_; (case hd => rfl); (case hg => rfl); (case hr => first | (go_simp; done) | (go_simp; rfl)); intro gb331 hg w6 hbox hb; have n0_ := Aside0.mk (below_step (bW HB.out) hb); have n1_ := Aside0.mk (hbox); have n2_ := Aside0.mk ((by rw [hg]; exact (below_size (bW HB.out)) : w.heap.size ≤ gb331)); have n3_ := Aside0.mk ((by rw [hg]; exact (below_size (bW HB.out)) : w.heap.size ≤ gb331)); clear HB; have HB := n0_; have BK331 := n1_; have GW331 := n2_; have GE331 := n3_; clear n0_ n1_ n2_ n3_ hb hbox hg))
 (try simp only [Act.put, List.setIfInBounds_toArray, List.set_cons_zero, List.set_cons_succ])
 go_cut [34] (fun v34 wc => ∃ (kq : Nat) (x34_4 : Bool), v34 = .bool x34_4 ∧ Aside0 (samphirelaw11_HeapTells.j0 kq l0 a2 a3 x34_4 a1_0 a1_1 a1_2 = some r) ∧ Aside0 (kq ≤ k) ∧ Aside0 (wc.heap[gb331]? = some (.cells #[.string a1_0, .int .u64 a1_1, .int .u64 a1_2] 25 (0, 0))) ∧ Aside0 (Below w.heap.size w wc))
 case first =>
  as_aux_lemma =>
  have H := HC5.out
  clear HC5
  replace H := Option.bind_eq_some_iff.mp H
  obtain ⟨t332, A70, H⟩ := H
  replace H : (if t332 = true then (if (a1_0.size : Int) > 100 then (samphirelaw11_HeapTells.j0 k l0 a2 a3 true a1_0 a1_1 a1_2) else (samphirelaw11_HeapTells.j0 k l0 a2 a3 (decide ((a3.size : Int) > 100)) a1_0 a1_1 a1_2)) else (samphirelaw11_HeapTells.j0 k l0 a2 a3 true a1_0 a1_1 a1_2)) = some r := H
  have A7 := Aside0.mk A70
  clear A70
  by_cases c8 : t332 = true
  ·
   subst c8
   have H1 : (if (a1_0.size : Int) > 100 then (samphirelaw11_HeapTells.j0 k l0 a2 a3 true a1_0 a1_1 a1_2) else (samphirelaw11_HeapTells.j0 k l0 a2 a3 (decide ((a3.size : Int) > 100)) a1_0 a1_1 a1_2)) = some r := by rw [if_pos rfl] at H; exact H
   clear H
   have H := H1
   clear H1
   by_cases c9 : (a1_0.size : Int) > 100
   ·
    rw [if_pos c9] at H
    have c9b0 : decide (100 < (a1_0.size : Int)) = true := decide_eq_true c9
    have c9b1 : decide (100 < a1_0.size) = true := decide_eq_true (by omega)
    clear c9
    (first | rw [c9b0] | (simp only [i64_w, i32_w]; rw [c9b0]) | skip)
    have H' := Aside0.mk H
    clear H
    go_wp2_with (first | ((with_reducible refine gate_callee (f := 8) rfl ?_); refine goesL_ (some 22) rfl rfl Try.func8 (by kernel_rfl) rfl #[.slice A0 l0.length c0] rfl (by (try simp only [List.map_toArray, List.map_cons, List.map_nil]); first | done | rfl | (simp only [List.length_drop, List.length_take]; rfl)) ?_; (with_reducible refine (samphireref10_Small.calls k _ _ l0 true _ ?side1 ?side2 A7.out).mono ?_); (case side1 => repeat (first | exact (Kd.C_below HR0.out HB.out) | (with_reducible refine Kd.C_alloc ?_ _) | (with_reducible refine Kd.C_drewN ?_ _) | (with_reducible refine Kd.C_drew ?_))); (case side2 => exact HC0.out); rintro e w' ⟨rfl, ⟨nd, rfl⟩⟩; refine ⟨_, rfl, ?_⟩; have hcz10_0 : w6.cell? ⟨gb331, 0, none⟩ = some (.string a1_0) := (blk_cell BK331.out 0).trans rfl; have hcz10_1 : w6.cell? ⟨gb331, 1, none⟩ = some (.int .u64 a1_1) := (blk_cell BK331.out 1).trans rfl; have hcz10_2 : w6.cell? ⟨gb331, 2, none⟩ = some (.int .u64 a1_2) := (blk_cell BK331.out 2).trans rfl; have hfz10_0 := blk_frozen BK331.out 0; have hfz10_1 := blk_frozen BK331.out 1; have hfz10_2 := blk_frozen BK331.out 2))
    go_meet
    case rel => exact ⟨_, (true), (by first | rfl | (simp; done) | (simp [*]; done)), H', ⟨by first | omega | exact Nat.le_refl _⟩, ⟨by (with_reducible repeat (first | refine blk_drewN ?_ _ | refine blk_drew ?_ | refine blk_alloc ?_ _)); exact BK331.out⟩, ⟨by repeat (first | (with_reducible first | exact HB.out | apply below_alloc | apply pw_below_drewN | apply below_drew1 | refine below_set ?_ GE331.out) | exact HB.out)⟩⟩
   ·
    rw [if_neg c9] at H
    have c9b0 : decide (100 < (a1_0.size : Int)) = false := decide_eq_false c9
    have c9b1 : decide (100 < a1_0.size) = false := decide_eq_false (by omega)
    clear c9
    (first | rw [c9b0] | (simp only [i64_w, i32_w]; rw [c9b0]) | skip)
    have H' := Aside0.mk H
    clear H
    go_wp2_with (first | ((with_reducible refine gate_callee (f := 8) rfl ?_); refine goesL_ (some 22) rfl rfl Try.func8 (by kernel_rfl) rfl #[.slice A0 l0.length c0] rfl (by (try simp only [List.map_toArray, List.map_cons, List.map_nil]); first | done | rfl | (simp only [List.length_drop, List.length_take]; rfl)) ?_; (with_reducible refine (samphireref10_Small.calls k _ _ l0 true _ ?side1 ?side2 A7.out).mono ?_); (case side1 => repeat (first | exact (Kd.C_below HR0.out HB.out) | (with_reducible refine Kd.C_alloc ?_ _) | (with_reducible refine Kd.C_drewN ?_ _) | (with_reducible refine Kd.C_drew ?_))); (case side2 => exact HC0.out); rintro e w' ⟨rfl, ⟨nd, rfl⟩⟩; refine ⟨_, rfl, ?_⟩; have hcz11_0 : w6.cell? ⟨gb331, 0, none⟩ = some (.string a1_0) := (blk_cell BK331.out 0).trans rfl; have hcz11_1 : w6.cell? ⟨gb331, 1, none⟩ = some (.int .u64 a1_1) := (blk_cell BK331.out 1).trans rfl; have hcz11_2 : w6.cell? ⟨gb331, 2, none⟩ = some (.int .u64 a1_2) := (blk_cell BK331.out 2).trans rfl; have hfz11_0 := blk_frozen BK331.out 0; have hfz11_1 := blk_frozen BK331.out 1; have hfz11_2 := blk_frozen BK331.out 2))
    go_meet
    case rel => exact ⟨_, (decide ((a3.size : Int) > 100)), (by first | rfl | (simp; done) | (simp [*]; done)), H', ⟨by first | omega | exact Nat.le_refl _⟩, ⟨by (with_reducible repeat (first | refine blk_drewN ?_ _ | refine blk_drew ?_ | refine blk_alloc ?_ _)); exact BK331.out⟩, ⟨by repeat (first | (with_reducible first | exact HB.out | apply below_alloc | apply pw_below_drewN | apply below_drew1 | refine below_set ?_ GE331.out) | exact HB.out)⟩⟩
  ·
   replace c8 := Bool.eq_false_iff.mpr c8
   subst c8
   have H1 : (samphirelaw11_HeapTells.j0 k l0 a2 a3 true a1_0 a1_1 a1_2) = some r := by rw [if_neg (show ¬ (false = true) by decide)] at H; exact H
   clear H
   have H := H1
   clear H1
   have H' := Aside0.mk H
   clear H
   go_wp2_with (first | ((with_reducible refine gate_callee (f := 8) rfl ?_); refine goesL_ (some 22) rfl rfl Try.func8 (by kernel_rfl) rfl #[.slice A0 l0.length c0] rfl (by (try simp only [List.map_toArray, List.map_cons, List.map_nil]); first | done | rfl | (simp only [List.length_drop, List.length_take]; rfl)) ?_; (with_reducible refine (samphireref10_Small.calls k _ _ l0 false _ ?side1 ?side2 A7.out).mono ?_); (case side1 => repeat (first | exact (Kd.C_below HR0.out HB.out) | (with_reducible refine Kd.C_alloc ?_ _) | (with_reducible refine Kd.C_drewN ?_ _) | (with_reducible refine Kd.C_drew ?_))); (case side2 => exact HC0.out); rintro e w' ⟨rfl, ⟨nd, rfl⟩⟩; refine ⟨_, rfl, ?_⟩))
   go_meet
   case rel => exact ⟨_, (true), (by first | rfl | (simp; done) | (simp [*]; done)), H', ⟨by first | omega | exact Nat.le_refl _⟩, ⟨by (with_reducible repeat (first | refine blk_drewN ?_ _ | refine blk_drew ?_ | refine blk_alloc ?_ _)); exact BK331.out⟩, ⟨by repeat (first | (with_reducible first | exact HB.out | apply below_alloc | apply pw_below_drewN | apply below_drew1 | refine below_set ?_ GE331.out) | exact HB.out)⟩⟩
 case rest =>
  clear HC5
  try clear p2
  try clear c3
  try clear c8
  try clear c9
  try clear c9b0
  try clear c9b1
  try clear hcz10_0
  try clear hcz10_1
  try clear hcz10_2
  try clear hcz11_0
  try clear hcz11_1
  try clear hcz11_2
  try clear hfz10_0
  try clear hfz10_1
  try clear hfz10_2
  try clear hfz11_0
  try clear hfz11_1
  try clear hfz11_2
  obtain ⟨kq, x34_4, rfl, HA, HJ4, BK331, HB⟩ := hcut
  cases kq with
  | zero => exact absurd HA.out (by simp [samphirelaw11_HeapTells.j0])
  | succ kj4 =>
   have H := HA.out
   clear HA
   simp only [samphirelaw11_HeapTells.j0] at H
   by_cases c12 : x34_4 = true
   ·
    subst c12
    have H1 : ((samphirelaw11_awake.f kj4).bind fun t333 => (some t333)) = some r := by rw [if_pos rfl] at H; exact H
    clear H
    have H := H1
    clear H1
    replace H := Option.bind_eq_some_iff.mp H
    obtain ⟨t333, A130, H⟩ := H
    replace H : (some t333) = some r := H
    have A13 := Aside0.mk A130
    clear A130
    obtain rfl := Option.some.inj H
    go_wp2_with (first | ((with_reducible refine gate_callee (f := 9) rfl ?_); refine goesL_ (some 35) rfl rfl Try.func9 (by kernel_rfl) rfl #[] rfl (by (try simp only [List.map_toArray, List.map_cons, List.map_nil]); first | done | rfl | (simp only [List.length_drop, List.length_take]; rfl)) ?_; (with_reducible refine (samphirelaw11_awake.calls kj4  t333 _ A13.out).mono ?_); rintro e w14 ⟨rfl, hb⟩; refine ⟨_, rfl, ?_⟩; have n0_ := Aside0.mk (blk_below (bT BK331.out) hb); have n1_ := Aside0.mk (below_step (bW HB.out) hb); clear BK331 HB; have BK331 := n0_; have HB := n1_; clear n0_ n1_; (try clear hb); (try clear hb2); (try clear hk); (try clear hi)))
    go_ret
    exact ⟨by first | rfl | (simp [errW_none, errW_some] <;> rfl) | (simp [*, errW_none, errW_some] <;> rfl), by repeat (first | (with_reducible first | exact HB.out | apply below_alloc | apply pw_below_drewN | apply below_drew1 | refine below_set ?_ GE331.out) | exact HB.out)⟩
   ·
    replace c12 := Bool.eq_false_iff.mpr c12
    subst c12
    have H1 : ((heap_Push.f kj4 l0 a1_0 a1_1 a1_2).bind fun bt334 => ((heap_Pop.f kj4 l0).bind fun bt338 => ((heap_Put.f kj4 l0 a2 a1_0 a1_1 a1_2).bind fun bt346 => ((heap_Find.f kj4 l0 a3).bind fun bt350 => ((samphireref11_Right.f kj4 l0).bind fun t352 => (if t352 = true then ((rank_Check.f a1_0 a1_1 a1_2).bind fun t358 => (if bt334.2 = t358 then (if t358 = 0 then ((some (([] : List (S25)) : List (S25))).bind fun y359 => (if y359.length + l0.length < 4398046511104 then ((some (y359 ++ l0 : List (S25))).bind fun y362 => ((some (([(⟨a1_0, a1_1, a1_2⟩ : S25)] : List (S25)) : List (S25))).bind fun y365 => (if y362.length + y365.length < 4398046511104 then ((samphireref11_Lift.f kj4 (y362 ++ y365) (l0.length : Int)).bind fun t371 => ((samphireref10_Same.f kj4 bt334.1 t371).bind fun t374 => (samphirelaw11_HeapTells.j1 kj4 l0 a2 a3 bt338.2.2.2.1 bt338.2.2.2.2 bt346.1 bt346.2 bt350.1 bt350.2 t358 (!t374) a1_0 a1_1 a1_2 bt338.1 bt338.2.1 bt338.2.2.1))) else (none)))) else (none))) else ((samphireref10_Same.f kj4 bt334.1 l0).bind fun t375 => (if t375 = true then (samphirelaw11_HeapTells.j1 kj4 l0 a2 a3 bt338.2.2.2.1 bt338.2.2.2.2 bt346.1 bt346.2 bt350.1 bt350.2 t358 false a1_0 a1_1 a1_2 bt338.1 bt338.2.1 bt338.2.2.1) else (none)))) else (none))) else ((heap_Right.f kj4 l0).bind fun t353 => (if t353 = true then (none) else (if bt334.2 = 1 then (if bt338.2.2.2.2 = 1 then (if bt346.2 = 1 then ((samphireref10_Same.f kj4 bt334.1 l0).bind fun t354 => (if t354 = true then ((samphireref10_Same.f kj4 bt338.2.2.2.1 l0).bind fun t355 => (if t355 = true then ((samphireref10_Same.f kj4 bt346.1 l0).bind fun t356 => (if t356 = true then (if (bt338.1.toList == ([] : List UInt8) && (bt338.2.1 == 0 && (bt338.2.2.1 == 0))) = true then (if bt350.1 = 0 then (if bt350.2 = true then (none) else ((samphirelaw11_awake.f kj4).bind fun t357 => (some t357))) else (none)) else (none)) else (none))) else (none))) else (none))) else (none)) else (none)) else (none)))))))))) = some r := by rw [if_neg (show ¬ (false = true) by decide)] at H; exact H
    clear H
    have H := H1
    clear H1
    replace H := Option.bind_eq_some_iff.mp H
    obtain ⟨⟨t334, t337⟩, A150, H⟩ := H
    replace H : ((heap_Pop.f kj4 l0).bind fun bt338 => ((heap_Put.f kj4 l0 a2 a1_0 a1_1 a1_2).bind fun bt346 => ((heap_Find.f kj4 l0 a3).bind fun bt350 => ((samphireref11_Right.f kj4 l0).bind fun t352 => (if t352 = true then ((rank_Check.f a1_0 a1_1 a1_2).bind fun t358 => (if t337 = t358 then (if t358 = 0 then ((some (([] : List (S25)) : List (S25))).bind fun y359 => (if y359.length + l0.length < 4398046511104 then ((some (y359 ++ l0 : List (S25))).bind fun y362 => ((some (([(⟨a1_0, a1_1, a1_2⟩ : S25)] : List (S25)) : List (S25))).bind fun y365 => (if y362.length + y365.length < 4398046511104 then ((samphireref11_Lift.f kj4 (y362 ++ y365) (l0.length : Int)).bind fun t371 => ((samphireref10_Same.f kj4 t334 t371).bind fun t374 => (samphirelaw11_HeapTells.j1 kj4 l0 a2 a3 bt338.2.2.2.1 bt338.2.2.2.2 bt346.1 bt346.2 bt350.1 bt350.2 t358 (!t374) a1_0 a1_1 a1_2 bt338.1 bt338.2.1 bt338.2.2.1))) else (none)))) else (none))) else ((samphireref10_Same.f kj4 t334 l0).bind fun t375 => (if t375 = true then (samphirelaw11_HeapTells.j1 kj4 l0 a2 a3 bt338.2.2.2.1 bt338.2.2.2.2 bt346.1 bt346.2 bt350.1 bt350.2 t358 false a1_0 a1_1 a1_2 bt338.1 bt338.2.1 bt338.2.2.1) else (none)))) else (none))) else ((heap_Right.f kj4 l0).bind fun t353 => (if t353 = true then (none) else (if t337 = 1 then (if bt338.2.2.2.2 = 1 then (if bt346.2 = 1 then ((samphireref10_Same.f kj4 t334 l0).bind fun t354 => (if t354 = true then ((samphireref10_Same.f kj4 bt338.2.2.2.1 l0).bind fun t355 => (if t355 = true then ((samphireref10_Same.f kj4 bt346.1 l0).bind fun t356 => (if t356 = true then (if (bt338.1.toList == ([] : List UInt8) && (bt338.2.1 == 0 && (bt338.2.2.1 == 0))) = true then (if bt350.1 = 0 then (if bt350.2 = true then (none) else ((samphirelaw11_awake.f kj4).bind fun t357 => (some t357))) else (none)) else (none)) else (none))) else (none))) else (none))) else (none)) else (none)) else (none))))))))) = some r := H
    have A15 := Aside0.mk A150
    clear A150
    replace H := Option.bind_eq_some_iff.mp H
    obtain ⟨⟨t338, t339, t340, t341, t344⟩, A160, H⟩ := H
    replace H : ((heap_Put.f kj4 l0 a2 a1_0 a1_1 a1_2).bind fun bt346 => ((heap_Find.f kj4 l0 a3).bind fun bt350 => ((samphireref11_Right.f kj4 l0).bind fun t352 => (if t352 = true then ((rank_Check.f a1_0 a1_1 a1_2).bind fun t358 => (if t337 = t358 then (if t358 = 0 then ((some (([] : List (S25)) : List (S25))).bind fun y359 => (if y359.length + l0.length < 4398046511104 then ((some (y359 ++ l0 : List (S25))).bind fun y362 => ((some (([(⟨a1_0, a1_1, a1_2⟩ : S25)] : List (S25)) : List (S25))).bind fun y365 => (if y362.length + y365.length < 4398046511104 then ((samphireref11_Lift.f kj4 (y362 ++ y365) (l0.length : Int)).bind fun t371 => ((samphireref10_Same.f kj4 t334 t371).bind fun t374 => (samphirelaw11_HeapTells.j1 kj4 l0 a2 a3 t341 t344 bt346.1 bt346.2 bt350.1 bt350.2 t358 (!t374) a1_0 a1_1 a1_2 t338 t339 t340))) else (none)))) else (none))) else ((samphireref10_Same.f kj4 t334 l0).bind fun t375 => (if t375 = true then (samphirelaw11_HeapTells.j1 kj4 l0 a2 a3 t341 t344 bt346.1 bt346.2 bt350.1 bt350.2 t358 false a1_0 a1_1 a1_2 t338 t339 t340) else (none)))) else (none))) else ((heap_Right.f kj4 l0).bind fun t353 => (if t353 = true then (none) else (if t337 = 1 then (if t344 = 1 then (if bt346.2 = 1 then ((samphireref10_Same.f kj4 t334 l0).bind fun t354 => (if t354 = true then ((samphireref10_Same.f kj4 t341 l0).bind fun t355 => (if t355 = true then ((samphireref10_Same.f kj4 bt346.1 l0).bind fun t356 => (if t356 = true then (if (t338.toList == ([] : List UInt8) && (t339 == 0 && (t340 == 0))) = true then (if bt350.1 = 0 then (if bt350.2 = true then (none) else ((samphirelaw11_awake.f kj4).bind fun t357 => (some t357))) else (none)) else (none)) else (none))) else (none))) else (none))) else (none)) else (none)) else (none)))))))) = some r := H
    have A16 := Aside0.mk A160
    clear A160
    replace H := Option.bind_eq_some_iff.mp H
    obtain ⟨⟨t346, t349⟩, A170, H⟩ := H
    replace H : ((heap_Find.f kj4 l0 a3).bind fun bt350 => ((samphireref11_Right.f kj4 l0).bind fun t352 => (if t352 = true then ((rank_Check.f a1_0 a1_1 a1_2).bind fun t358 => (if t337 = t358 then (if t358 = 0 then ((some (([] : List (S25)) : List (S25))).bind fun y359 => (if y359.length + l0.length < 4398046511104 then ((some (y359 ++ l0 : List (S25))).bind fun y362 => ((some (([(⟨a1_0, a1_1, a1_2⟩ : S25)] : List (S25)) : List (S25))).bind fun y365 => (if y362.length + y365.length < 4398046511104 then ((samphireref11_Lift.f kj4 (y362 ++ y365) (l0.length : Int)).bind fun t371 => ((samphireref10_Same.f kj4 t334 t371).bind fun t374 => (samphirelaw11_HeapTells.j1 kj4 l0 a2 a3 t341 t344 t346 t349 bt350.1 bt350.2 t358 (!t374) a1_0 a1_1 a1_2 t338 t339 t340))) else (none)))) else (none))) else ((samphireref10_Same.f kj4 t334 l0).bind fun t375 => (if t375 = true then (samphirelaw11_HeapTells.j1 kj4 l0 a2 a3 t341 t344 t346 t349 bt350.1 bt350.2 t358 false a1_0 a1_1 a1_2 t338 t339 t340) else (none)))) else (none))) else ((heap_Right.f kj4 l0).bind fun t353 => (if t353 = true then (none) else (if t337 = 1 then (if t344 = 1 then (if t349 = 1 then ((samphireref10_Same.f kj4 t334 l0).bind fun t354 => (if t354 = true then ((samphireref10_Same.f kj4 t341 l0).bind fun t355 => (if t355 = true then ((samphireref10_Same.f kj4 t346 l0).bind fun t356 => (if t356 = true then (if (t338.toList == ([] : List UInt8) && (t339 == 0 && (t340 == 0))) = true then (if bt350.1 = 0 then (if bt350.2 = true then (none) else ((samphirelaw11_awake.f kj4).bind fun t357 => (some t357))) else (none)) else (none)) else (none))) else (none))) else (none))) else (none)) else (none)) else (none))))))) = some r := H
    have A17 := Aside0.mk A170
    clear A170
    replace H := Option.bind_eq_some_iff.mp H
    obtain ⟨⟨t350, t351⟩, A180, H⟩ := H
    replace H : ((samphireref11_Right.f kj4 l0).bind fun t352 => (if t352 = true then ((rank_Check.f a1_0 a1_1 a1_2).bind fun t358 => (if t337 = t358 then (if t358 = 0 then ((some (([] : List (S25)) : List (S25))).bind fun y359 => (if y359.length + l0.length < 4398046511104 then ((some (y359 ++ l0 : List (S25))).bind fun y362 => ((some (([(⟨a1_0, a1_1, a1_2⟩ : S25)] : List (S25)) : List (S25))).bind fun y365 => (if y362.length + y365.length < 4398046511104 then ((samphireref11_Lift.f kj4 (y362 ++ y365) (l0.length : Int)).bind fun t371 => ((samphireref10_Same.f kj4 t334 t371).bind fun t374 => (samphirelaw11_HeapTells.j1 kj4 l0 a2 a3 t341 t344 t346 t349 t350 t351 t358 (!t374) a1_0 a1_1 a1_2 t338 t339 t340))) else (none)))) else (none))) else ((samphireref10_Same.f kj4 t334 l0).bind fun t375 => (if t375 = true then (samphirelaw11_HeapTells.j1 kj4 l0 a2 a3 t341 t344 t346 t349 t350 t351 t358 false a1_0 a1_1 a1_2 t338 t339 t340) else (none)))) else (none))) else ((heap_Right.f kj4 l0).bind fun t353 => (if t353 = true then (none) else (if t337 = 1 then (if t344 = 1 then (if t349 = 1 then ((samphireref10_Same.f kj4 t334 l0).bind fun t354 => (if t354 = true then ((samphireref10_Same.f kj4 t341 l0).bind fun t355 => (if t355 = true then ((samphireref10_Same.f kj4 t346 l0).bind fun t356 => (if t356 = true then (if (t338.toList == ([] : List UInt8) && (t339 == 0 && (t340 == 0))) = true then (if t350 = 0 then (if t351 = true then (none) else ((samphirelaw11_awake.f kj4).bind fun t357 => (some t357))) else (none)) else (none)) else (none))) else (none))) else (none))) else (none)) else (none)) else (none)))))) = some r := H
    have A18 := Aside0.mk A180
    clear A180
    replace H := Option.bind_eq_some_iff.mp H
    obtain ⟨t352, A190, H⟩ := H
    replace H : (if t352 = true then ((rank_Check.f a1_0 a1_1 a1_2).bind fun t358 => (if t337 = t358 then (if t358 = 0 then ((some (([] : List (S25)) : List (S25))).bind fun y359 => (if y359.length + l0.length < 4398046511104 then ((some (y359 ++ l0 : List (S25))).bind fun y362 => ((some (([(⟨a1_0, a1_1, a1_2⟩ : S25)] : List (S25)) : List (S25))).bind fun y365 => (if y362.length + y365.length < 4398046511104 then ((samphireref11_Lift.f kj4 (y362 ++ y365) (l0.length : Int)).bind fun t371 => ((samphireref10_Same.f kj4 t334 t371).bind fun t374 => (samphirelaw11_HeapTells.j1 kj4 l0 a2 a3 t341 t344 t346 t349 t350 t351 t358 (!t374) a1_0 a1_1 a1_2 t338 t339 t340))) else (none)))) else (none))) else ((samphireref10_Same.f kj4 t334 l0).bind fun t375 => (if t375 = true then (samphirelaw11_HeapTells.j1 kj4 l0 a2 a3 t341 t344 t346 t349 t350 t351 t358 false a1_0 a1_1 a1_2 t338 t339 t340) else (none)))) else (none))) else ((heap_Right.f kj4 l0).bind fun t353 => (if t353 = true then (none) else (if t337 = 1 then (if t344 = 1 then (if t349 = 1 then ((samphireref10_Same.f kj4 t334 l0).bind fun t354 => (if t354 = true then ((samphireref10_Same.f kj4 t341 l0).bind fun t355 => (if t355 = true then ((samphireref10_Same.f kj4 t346 l0).bind fun t356 => (if t356 = true then (if (t338.toList == ([] : List UInt8) && (t339 == 0 && (t340 == 0))) = true then (if t350 = 0 then (if t351 = true then (none) else ((samphirelaw11_awake.f kj4).bind fun t357 => (some t357))) else (none)) else (none)) else (none))) else (none))) else (none))) else (none)) else (none)) else (none))))) = some r := H
    have A19 := Aside0.mk A190
    clear A190
    by_cases c20 : t352 = true
    ·
     subst c20
     have H1 : ((rank_Check.f a1_0 a1_1 a1_2).bind fun t358 => (if t337 = t358 then (if t358 = 0 then ((some (([] : List (S25)) : List (S25))).bind fun y359 => (if y359.length + l0.length < 4398046511104 then ((some (y359 ++ l0 : List (S25))).bind fun y362 => ((some (([(⟨a1_0, a1_1, a1_2⟩ : S25)] : List (S25)) : List (S25))).bind fun y365 => (if y362.length + y365.length < 4398046511104 then ((samphireref11_Lift.f kj4 (y362 ++ y365) (l0.length : Int)).bind fun t371 => ((samphireref10_Same.f kj4 t334 t371).bind fun t374 => (samphirelaw11_HeapTells.j1 kj4 l0 a2 a3 t341 t344 t346 t349 t350 t351 t358 (!t374) a1_0 a1_1 a1_2 t338 t339 t340))) else (none)))) else (none))) else ((samphireref10_Same.f kj4 t334 l0).bind fun t375 => (if t375 = true then (samphirelaw11_HeapTells.j1 kj4 l0 a2 a3 t341 t344 t346 t349 t350 t351 t358 false a1_0 a1_1 a1_2 t338 t339 t340) else (none)))) else (none))) = some r := by rw [if_pos rfl] at H; exact H
     clear H
     have H := H1
     clear H1
     replace H := Option.bind_eq_some_iff.mp H
     obtain ⟨t358, A210, H⟩ := H
     replace H : (if t337 = t358 then (if t358 = 0 then ((some (([] : List (S25)) : List (S25))).bind fun y359 => (if y359.length + l0.length < 4398046511104 then ((some (y359 ++ l0 : List (S25))).bind fun y362 => ((some (([(⟨a1_0, a1_1, a1_2⟩ : S25)] : List (S25)) : List (S25))).bind fun y365 => (if y362.length + y365.length < 4398046511104 then ((samphireref11_Lift.f kj4 (y362 ++ y365) (l0.length : Int)).bind fun t371 => ((samphireref10_Same.f kj4 t334 t371).bind fun t374 => (samphirelaw11_HeapTells.j1 kj4 l0 a2 a3 t341 t344 t346 t349 t350 t351 t358 (!t374) a1_0 a1_1 a1_2 t338 t339 t340))) else (none)))) else (none))) else ((samphireref10_Same.f kj4 t334 l0).bind fun t375 => (if t375 = true then (samphirelaw11_HeapTells.j1 kj4 l0 a2 a3 t341 t344 t346 t349 t350 t351 t358 false a1_0 a1_1 a1_2 t338 t339 t340) else (none)))) else (none)) = some r := H
     have A21 := Aside0.mk A210
     clear A210
     have HC22 := Aside0.mk H
     clear H
     have hcz23_0 : wc.cell? ⟨gb331, 0, none⟩ = some (.string a1_0) := (blk_cell BK331.out 0).trans rfl
     have hcz23_1 : wc.cell? ⟨gb331, 1, none⟩ = some (.int .u64 a1_1) := (blk_cell BK331.out 1).trans rfl
     have hcz23_2 : wc.cell? ⟨gb331, 2, none⟩ = some (.int .u64 a1_2) := (blk_cell BK331.out 2).trans rfl
     have hfz23_0 := blk_frozen BK331.out 0
     have hfz23_1 := blk_frozen BK331.out 1
     have hfz23_2 := blk_frozen BK331.out 2
     go_upto_region 10 with (first | ((with_reducible refine gate_callee (f := 10) rfl ?_); refine goesL_ (some 39) rfl rfl Try.func10 (by kernel_rfl) rfl #[.slice A0 l0.length c0, .agg #[.string a1_0, .int .u64 a1_1, .int .u64 a1_2]] rfl (by (try simp only [List.map_toArray, List.map_cons, List.map_nil]); first | done | rfl | (simp only [List.length_drop, List.length_take]; rfl)) ?_; (with_reducible refine (heap_Push.calls kj4 (fun k_ => k_ < w.heap.size) _ _ l0 a1_0 a1_1 a1_2 t334 t337 _ ?side1 A15.out).mono ?_); (case side1 => exact Kd.V_mk HC0.out (Kd.F_below (Kd.C_F k25_heap HR0.out) (bW HB.out))); rintro e w24 ⟨v335, rfl, ho0, hb⟩; refine ⟨_, rfl, ?_⟩; have n0_ := Aside0.mk (Kd.V_lower (Kd.V_mono (ok' := fun k_ => k_ ≠ gb331) ho0 (fun k_ hk_ => Or.elim hk_ (fun hs_ => fun e_ => Nat.not_le.2 hs_ (by rw [e_]; exact GW331.out)) (fun hn_ => (Kd.freshB (bT BK331.out) k_ hn_)))) (below_size (bW HB.out))); have n1_ := Aside0.mk (blk_below (bT BK331.out) hb); have n2_ := Aside0.mk (below_step (bW HB.out) hb); clear BK331 HB; have HO336 := n0_; have BK331 := n1_; have HB := n2_; clear n0_ n1_ n2_; (try clear hb); (try clear hb2); (try clear hk); (try clear hi); (try clear ho0)) | ((with_reducible refine gate_callee (f := 11) rfl ?_); refine goesL_ (some 44) rfl rfl Try.func11 (by kernel_rfl) rfl #[.slice A0 l0.length c0] rfl (by (try simp only [List.map_toArray, List.map_cons, List.map_nil]); first | done | rfl | (simp only [List.length_drop, List.length_take]; rfl)) ?_; (with_reducible refine (heap_Pop.calls kj4 (fun k_ => k_ < w.heap.size) _ _ l0 t338 t339 t340 t341 t344 _ ?side1 A16.out).mono ?_); (case side1 => exact Kd.V_mk HC0.out (Kd.F_below (Kd.C_F k25_heap HR0.out) (bW HB.out))); rintro e w25 ⟨v342, rfl, ho0, hb⟩; refine ⟨_, rfl, ?_⟩; have n0_ := Aside0.mk (Kd.V_below (by (with_reducible repeat (first | apply Kd.V_alloc | apply Kd.V_drewN | apply Kd.V_drew)); exact HO336.out) hb); have n1_ := Aside0.mk (Kd.V_lower (Kd.V_mono (ok' := fun k_ => k_ ≠ gb331) ho0 (fun k_ hk_ => Or.elim hk_ (fun hs_ => fun e_ => Nat.not_le.2 hs_ (by rw [e_]; exact GW331.out)) (fun hn_ => (Kd.freshB (bT BK331.out) k_ hn_)))) (below_size (bW HB.out))); have n2_ := Aside0.mk (blk_below (bT BK331.out) hb); have n3_ := Aside0.mk (below_step (bW HB.out) hb); clear HO336 BK331 HB; have HO336 := n0_; have HO343 := n1_; have BK331 := n2_; have HB := n3_; clear n0_ n1_ n2_ n3_; (try clear hb); (try clear hb2); (try clear hk); (try clear hi); (try clear ho0)) | ((with_reducible refine gate_dst (N := 11) rfl ?_); (try (refine gate_guard (by rfl) ?_; dsimp only)); refine box_event ?hg (N := 11) ?hd (cs := #[.string (⟨#[]⟩ : ByteArray), .int .u64 0, .int .u64 0]) (t := 25) ?hr ?_; (case hd => rfl); (case hg => rfl); (case hr => first | (go_simp; done) | (go_simp; rfl)); intro gb345 hg w26 hbox hb; have n0_ := Aside0.mk (Kd.V_below (Kd.V_elderB (by (with_reducible repeat (first | apply Kd.V_alloc | apply Kd.V_drewN | apply Kd.V_drew)); exact HO336.out) gb345 (Nat.le_of_eq hg.symm)) hb); have n1_ := Aside0.mk (Kd.V_below (Kd.V_elderB (by (with_reducible repeat (first | apply Kd.V_alloc | apply Kd.V_drewN | apply Kd.V_drew)); exact HO343.out) gb345 (Nat.le_of_eq hg.symm)) hb); have n2_ := Aside0.mk (blk_below (bT BK331.out) hb); have n3_ := Aside0.mk (below_step (bW HB.out) hb); have n4_ := Aside0.mk (hbox); have n5_ := Aside0.mk ((by rw [hg]; exact (below_size (bW HB.out)) : w.heap.size ≤ gb345)); have n6_ := Aside0.mk ((by rw [hg]; exact (below_size (bW HB.out)) : w.heap.size ≤ gb345)); have n7_ := Aside0.mk ((by rw [hg]; exact Nat.ne_of_lt (blk_lt (bT BK331.out)) : gb331 ≠ gb345)); have n8_ := Aside0.mk ((by rw [hg]; exact Nat.ne_of_gt (blk_lt (bT BK331.out)) : gb345 ≠ gb331)); clear HO336 HO343 BK331 HB; have HO336 := n0_; have HO343 := n1_; have BK331 := n2_; have HB := n3_; have BK345 := n4_; have GW345 := n5_; have GE345 := n6_; have NB331_345 := n7_; have NB345_331 := n8_; clear n0_ n1_ n2_ n3_ n4_ n5_ n6_ n7_ n8_ hb hbox hg; have hnb27 := NB345_331.out; have hnc27 := NB331_345.out; have hcz28_0 : w26.cell? ⟨gb345, 0, none⟩ = some (.string (⟨#[]⟩ : ByteArray)) := (blk_cell BK345.out 0).trans rfl; have hcz28_1 : w26.cell? ⟨gb345, 1, none⟩ = some (.int .u64 0) := (blk_cell BK345.out 1).trans rfl; have hcz28_2 : w26.cell? ⟨gb345, 2, none⟩ = some (.int .u64 0) := (blk_cell BK345.out 2).trans rfl; have hfz28_0 := blk_frozen BK345.out 0; have hfz28_1 := blk_frozen BK345.out 1; have hfz28_2 := blk_frozen BK345.out 2) | ((with_reducible refine gate_store (t := 25) (p := 11) rfl ?_); refine store_event (t := 25) (p := 11) (v := ?vo_w29) (w1 := (((w26.setCell ⟨gb345, 0, none⟩ (.string t338)).setCell ⟨gb345, 1, none⟩ (.int .u64 t339)).setCell ⟨gb345, 2, none⟩ (.int .u64 t340))) ?hg ?ho ?hn ?hr ?_; (case ho => rfl); (case hg => rfl); (case hn => rfl); (case hr => first | (go_simp; done) | (go_simp; rfl)); intro w29 hw; have n0_ : Aside0 (Kd.V k25 25 w29 w.heap.size (fun k_ => k_ ≠ gb331 ∧ k_ ≠ gb345) v335 t334) := ⟨(by rw [hw]; exact (by (with_reducible repeat (first | apply Kd.V_alloc | apply Kd.V_drewN | apply Kd.V_drew)); exact Kd.V_mono (Kd.V_far (p := ⟨gb345, 2, none⟩) (Kd.V_far (p := ⟨gb345, 1, none⟩) (Kd.V_far (p := ⟨gb345, 0, none⟩) (Kd.V_mono HO336.out (fun k_ hk => (⟨hk, hk.2⟩ : _ ∧ k_ ≠ gb345))) (fun _ hk => hk.2) (.string t338)) (fun _ hk => hk.2) (.int .u64 t339)) (fun _ hk => hk.2) (.int .u64 t340)) (fun _ hk => ⟨hk.1.1, hk.1.2⟩)))⟩; have n1_ : Aside0 (Kd.V k25 25 w29 w.heap.size (fun k_ => k_ ≠ gb331 ∧ k_ ≠ gb345) v342 t341) := ⟨(by rw [hw]; exact (by (with_reducible repeat (first | apply Kd.V_alloc | apply Kd.V_drewN | apply Kd.V_drew)); exact Kd.V_mono (Kd.V_far (p := ⟨gb345, 2, none⟩) (Kd.V_far (p := ⟨gb345, 1, none⟩) (Kd.V_far (p := ⟨gb345, 0, none⟩) (Kd.V_mono HO343.out (fun k_ hk => (⟨hk, hk.2⟩ : _ ∧ k_ ≠ gb345))) (fun _ hk => hk.2) (.string t338)) (fun _ hk => hk.2) (.int .u64 t339)) (fun _ hk => hk.2) (.int .u64 t340)) (fun _ hk => ⟨hk.1.1, hk.1.2⟩)))⟩; have n2_ : Aside0 (w29.heap[gb331]? = some (.cells #[.string a1_0, .int .u64 a1_1, .int .u64 a1_2] 25 (0, 0))) := ⟨(by rw [hw]; exact (by (with_reducible repeat (first | refine blk_drewN ?_ _ | refine blk_drew ?_ | refine blk_alloc ?_ _)); refine blk_far ?_ NB331_345.out _; (with_reducible repeat (first | refine blk_drewN ?_ _ | refine blk_drew ?_ | refine blk_alloc ?_ _)); refine blk_far ?_ NB331_345.out _; (with_reducible repeat (first | refine blk_drewN ?_ _ | refine blk_drew ?_ | refine blk_alloc ?_ _)); refine blk_far ?_ NB331_345.out _; (with_reducible repeat (first | refine blk_drewN ?_ _ | refine blk_drew ?_ | refine blk_alloc ?_ _)); exact BK331.out))⟩; have n3_ : Aside0 (w29.heap[gb345]? = some (.cells #[.string t338, .int .u64 t339, .int .u64 t340] 25 (0, 0))) := ⟨(by rw [hw]; exact (by (with_reducible repeat (first | refine blk_drewN ?_ _ | refine blk_drew ?_ | refine blk_alloc ?_ _)); refine blk_put (cs := #[.string t338, .int .u64 t339, .int .u64 0]) ?_ 2 _ rfl; (with_reducible repeat (first | refine blk_drewN ?_ _ | refine blk_drew ?_ | refine blk_alloc ?_ _)); refine blk_put (cs := #[.string t338, .int .u64 0, .int .u64 0]) ?_ 1 _ rfl; (with_reducible repeat (first | refine blk_drewN ?_ _ | refine blk_drew ?_ | refine blk_alloc ?_ _)); refine blk_put (cs := #[.string (⟨#[]⟩ : ByteArray), .int .u64 0, .int .u64 0]) ?_ 0 _ rfl; (with_reducible repeat (first | refine blk_drewN ?_ _ | refine blk_drew ?_ | refine blk_alloc ?_ _)); exact BK345.out))⟩; have n4_ : Aside0 (Below w.heap.size w w29) := ⟨(by rw [hw]; exact (bW HB.out))⟩; clear hw HO336 HO343 BK331 BK345 HB; have HO336 := n0_; have HO343 := n1_; have BK331 := n2_; have BK345 := n3_; have HB := n4_; clear n0_ n1_ n2_ n3_ n4_; have hcz30_0 : w29.cell? ⟨gb331, 0, none⟩ = some (.string a1_0) := (blk_cell BK331.out 0).trans rfl; have hcz30_1 : w29.cell? ⟨gb331, 1, none⟩ = some (.int .u64 a1_1) := (blk_cell BK331.out 1).trans rfl; have hcz30_2 : w29.cell? ⟨gb331, 2, none⟩ = some (.int .u64 a1_2) := (blk_cell BK331.out 2).trans rfl; have hfz30_0 := blk_frozen BK331.out 0; have hfz30_1 := blk_frozen BK331.out 1; have hfz30_2 := blk_frozen BK331.out 2) | ((with_reducible refine gate_callee (f := 12) rfl ?_); refine goesL_ (some 52) rfl rfl Try.func12 (by kernel_rfl) rfl #[.slice A0 l0.length c0, .int .i64 a2, .agg #[.string a1_0, .int .u64 a1_1, .int .u64 a1_2]] rfl (by (try simp only [List.map_toArray, List.map_cons, List.map_nil]); first | done | rfl | (simp only [List.length_drop, List.length_take]; rfl)) ?_; (with_reducible refine (heap_Put.calls kj4 (fun k_ => k_ < w.heap.size) _ _ l0 a2 a1_0 a1_1 a1_2 t346 t349 _ ?side1 A17.out).mono ?_); (case side1 => exact Kd.V_mk HC0.out (Kd.F_below (Kd.C_F k25_heap HR0.out) (bW HB.out))); rintro e w31 ⟨v347, rfl, ho0, hb⟩; refine ⟨_, rfl, ?_⟩; have n0_ := Aside0.mk (Kd.V_below (by (with_reducible repeat (first | apply Kd.V_alloc | apply Kd.V_drewN | apply Kd.V_drew)); exact HO336.out) hb); have n1_ := Aside0.mk (Kd.V_below (by (with_reducible repeat (first | apply Kd.V_alloc | apply Kd.V_drewN | apply Kd.V_drew)); exact HO343.out) hb); have n2_ := Aside0.mk (Kd.V_lower (Kd.V_mono (ok' := fun k_ => k_ ≠ gb331 ∧ k_ ≠ gb345) ho0 (fun k_ hk_ => ⟨Or.elim hk_ (fun hs_ => fun e_ => Nat.not_le.2 hs_ (by rw [e_]; exact GW331.out)) (fun hn_ => (Kd.freshB (bT BK331.out) k_ hn_)), Or.elim hk_ (fun hs_ => fun e_ => Nat.not_le.2 hs_ (by rw [e_]; exact GW345.out)) (fun hn_ => (Kd.freshB (bT BK345.out) k_ hn_))⟩)) (below_size (bW HB.out))); have n3_ := Aside0.mk (blk_below (bT BK331.out) hb); have n4_ := Aside0.mk (blk_below (bT BK345.out) hb); have n5_ := Aside0.mk (below_step (bW HB.out) hb); clear HO336 HO343 BK331 BK345 HB; have HO336 := n0_; have HO343 := n1_; have HO348 := n2_; have BK331 := n3_; have BK345 := n4_; have HB := n5_; clear n0_ n1_ n2_ n3_ n4_ n5_; (try clear hb); (try clear hb2); (try clear hk); (try clear hi); (try clear ho0)) | ((with_reducible refine gate_callee (f := 13) rfl ?_); refine goesL_ (some 58) rfl rfl Try.func13 (by kernel_rfl) rfl #[.slice A0 l0.length c0, .string a3] rfl (by (try simp only [List.map_toArray, List.map_cons, List.map_nil]); first | done | rfl | (simp only [List.length_drop, List.length_take]; rfl)) ?_; (with_reducible refine (heap_Find.calls kj4 _ _ l0 a3 t350 t351 _ ?side1 ?side2 A18.out).mono ?_); (case side1 => repeat (first | exact (Kd.C_below HR0.out HB.out) | (with_reducible refine Kd.C_alloc ?_ _) | (with_reducible refine Kd.C_drewN ?_ _) | (with_reducible refine Kd.C_drew ?_))); (case side2 => exact HC0.out); rintro e w32 ⟨rfl, hb⟩; refine ⟨_, rfl, ?_⟩; have n0_ := Aside0.mk (Kd.V_below (by (with_reducible repeat (first | apply Kd.V_alloc | apply Kd.V_drewN | apply Kd.V_drew)); exact HO336.out) hb); have n1_ := Aside0.mk (Kd.V_below (by (with_reducible repeat (first | apply Kd.V_alloc | apply Kd.V_drewN | apply Kd.V_drew)); exact HO343.out) hb); have n2_ := Aside0.mk (Kd.V_below (by (with_reducible repeat (first | apply Kd.V_alloc | apply Kd.V_drewN | apply Kd.V_drew)); exact HO348.out) hb); have n3_ := Aside0.mk (blk_below (bT BK331.out) hb); have n4_ := Aside0.mk (blk_below (bT BK345.out) hb); have n5_ := Aside0.mk (below_step (bW HB.out) hb); clear HO336 HO343 HO348 BK331 BK345 HB; have HO336 := n0_; have HO343 := n1_; have HO348 := n2_; have BK331 := n3_; have BK345 := n4_; have HB := n5_; clear n0_ n1_ n2_ n3_ n4_ n5_; (try clear hb); (try clear hb2); (try clear hk); (try clear hi)) | ((with_reducible refine gate_callee (f := 14) rfl ?_); refine goesL_ (some 62) rfl rfl Try.func14 (by kernel_rfl) rfl #[.slice A0 l0.length c0] rfl (by (try simp only [List.map_toArray, List.map_cons, List.map_nil]); first | done | rfl | (simp only [List.length_drop, List.length_take]; rfl)) ?_; (with_reducible refine (samphireref11_Right.calls kj4 _ _ l0 true _ ?side1 ?side2 A19.out).mono ?_); (case side1 => repeat (first | exact (Kd.C_below HR0.out HB.out) | (with_reducible refine Kd.C_alloc ?_ _) | (with_reducible refine Kd.C_drewN ?_ _) | (with_reducible refine Kd.C_drew ?_))); (case side2 => exact HC0.out); rintro e w33 ⟨rfl, hb⟩; refine ⟨_, rfl, ?_⟩; have n0_ := Aside0.mk (Kd.V_below (by (with_reducible repeat (first | apply Kd.V_alloc | apply Kd.V_drewN | apply Kd.V_drew)); exact HO336.out) hb); have n1_ := Aside0.mk (Kd.V_below (by (with_reducible repeat (first | apply Kd.V_alloc | apply Kd.V_drewN | apply Kd.V_drew)); exact HO343.out) hb); have n2_ := Aside0.mk (Kd.V_below (by (with_reducible repeat (first | apply Kd.V_alloc | apply Kd.V_drewN | apply Kd.V_drew)); exact HO348.out) hb); have n3_ := Aside0.mk (blk_below (bT BK331.out) hb); have n4_ := Aside0.mk (blk_below (bT BK345.out) hb); have n5_ := Aside0.mk (below_step (bW HB.out) hb); clear HO336 HO343 HO348 BK331 BK345 HB; have HO336 := n0_; have HO343 := n1_; have HO348 := n2_; have BK331 := n3_; have BK345 := n4_; have HB := n5_; clear n0_ n1_ n2_ n3_ n4_ n5_; (try clear hb); (try clear hb2); (try clear hk); (try clear hi); have hcz34_0 : w33.cell? ⟨gb331, 0, none⟩ = some (.string a1_0) := (blk_cell BK331.out 0).trans rfl; have hcz34_1 : w33.cell? ⟨gb331, 1, none⟩ = some (.int .u64 a1_1) := (blk_cell BK331.out 1).trans rfl; have hcz34_2 : w33.cell? ⟨gb331, 2, none⟩ = some (.int .u64 a1_2) := (blk_cell BK331.out 2).trans rfl; have hfz34_0 := blk_frozen BK331.out 0; have hfz34_1 := blk_frozen BK331.out 1; have hfz34_2 := blk_frozen BK331.out 2) | ((with_reducible refine gate_callee (f := 17) rfl ?_); refine goesL_ (some 111) rfl rfl Try.func17 (by kernel_rfl) rfl #[.agg #[.string a1_0, .int .u64 a1_1, .int .u64 a1_2]] rfl (by (try simp only [List.map_toArray, List.map_cons, List.map_nil]); first | done | rfl | (simp only [List.length_drop, List.length_take]; rfl)) ?_; (with_reducible refine (rank_Check.calls a1_0 a1_1 a1_2 t358 _ A21.out).mono ?_); rintro e w35 ⟨rfl, hb⟩; refine ⟨_, rfl, ?_⟩; have n0_ := Aside0.mk (Kd.V_below (by (with_reducible repeat (first | apply Kd.V_alloc | apply Kd.V_drewN | apply Kd.V_drew)); exact HO336.out) hb); have n1_ := Aside0.mk (Kd.V_below (by (with_reducible repeat (first | apply Kd.V_alloc | apply Kd.V_drewN | apply Kd.V_drew)); exact HO343.out) hb); have n2_ := Aside0.mk (Kd.V_below (by (with_reducible repeat (first | apply Kd.V_alloc | apply Kd.V_drewN | apply Kd.V_drew)); exact HO348.out) hb); have n3_ := Aside0.mk (blk_below (bT BK331.out) hb); have n4_ := Aside0.mk (blk_below (bT BK345.out) hb); have n5_ := Aside0.mk (below_step (bW HB.out) hb); clear HO336 HO343 HO348 BK331 BK345 HB; have HO336 := n0_; have HO343 := n1_; have HO348 := n2_; have BK331 := n3_; have BK345 := n4_; have HB := n5_; clear n0_ n1_ n2_ n3_ n4_ n5_; (try clear hb); (try clear hb2); (try clear hk); (try clear hi)))
     (try simp only [Act.put, List.setIfInBounds_toArray, List.set_cons_zero, List.set_cons_succ])
     go_cut [142] (fun v142 wc => ∃ (kq : Nat) (x142_21 : Bool), v142 = .bool x142_21 ∧ Aside0 (samphirelaw11_HeapTells.j1 kq l0 a2 a3 t341 t344 t346 t349 t350 t351 t358 x142_21 a1_0 a1_1 a1_2 t338 t339 t340 = some r) ∧ Aside0 (kq ≤ kj4) ∧ Aside0 (Kd.V k25 25 wc w.heap.size (fun k_ => k_ ≠ gb331 ∧ k_ ≠ gb345) v342 t341) ∧ Aside0 (Kd.V k25 25 wc w.heap.size (fun k_ => k_ ≠ gb331 ∧ k_ ≠ gb345) v347 t346) ∧ Aside0 (wc.heap[gb331]? = some (.cells #[.string a1_0, .int .u64 a1_1, .int .u64 a1_2] 25 (0, 0))) ∧ Aside0 (wc.heap[gb345]? = some (.cells #[.string t338, .int .u64 t339, .int .u64 t340] 25 (0, 0))) ∧ Aside0 (Below w.heap.size w wc))
     case first =>
      as_aux_lemma =>
      have H := HC22.out
      clear HC22
      by_cases c36 : t337 = t358
      ·
       rw [if_pos c36] at H
       have c36b0 : (t337 == t358) = true := beq_iff_eq.mpr c36
       have c36b1 : (t337 != t358) = false := bne_eq_false_iff_eq.mpr c36
       clear c36
       (first | rw [c36b0] | (simp only [i64_w, i32_w]; rw [c36b0]) | skip)
       by_cases c37 : t358 = 0
       ·
        rw [if_pos c37] at H
        have c37b0 : (t358 == 0) = true := beq_iff_eq.mpr c37
        have c37b1 : (t358 != 0) = false := bne_eq_false_iff_eq.mpr c37
        clear c37
        obtain ⟨y359, hy359⟩ : ∃ y_ : List (S25), y_ = (([] : List (S25))) := ⟨_, rfl⟩
        replace H : (if y359.length + l0.length < 4398046511104 then ((some (y359 ++ l0 : List (S25))).bind fun y362 => ((some (([(⟨a1_0, a1_1, a1_2⟩ : S25)] : List (S25)) : List (S25))).bind fun y365 => (if y362.length + y365.length < 4398046511104 then ((samphireref11_Lift.f kj4 (y362 ++ y365) (l0.length : Int)).bind fun t371 => ((samphireref10_Same.f kj4 t334 t371).bind fun t374 => (samphirelaw11_HeapTells.j1 kj4 l0 a2 a3 t341 t344 t346 t349 t350 t351 t358 (!t374) a1_0 a1_1 a1_2 t338 t339 t340))) else (none)))) else (none)) = some r := by first | (rw [hy359]; with_reducible exact H) | (have H2_ := (Option.bind_some _ _).symm.trans H; rw [hy359]; with_reducible exact H2_) | (have H2_ := (Option.bind_some _ _).symm.trans H; with_reducible exact H2_) | with_reducible exact H | (rw [hy359]; exact H) | exact H
        have Ny359 := Aside0.mk hy359
        clear hy359
        by_cases c38 : y359.length + l0.length < 4398046511104
        ·
         rw [if_pos c38] at H
         have LMc38 := Aside0.mk c38
         clear c38
         obtain ⟨y362, hy362⟩ : ∃ y_ : List (S25), y_ = (y359 ++ l0) := ⟨_, rfl⟩
         replace H : ((some (([(⟨a1_0, a1_1, a1_2⟩ : S25)] : List (S25)) : List (S25))).bind fun y365 => (if y362.length + y365.length < 4398046511104 then ((samphireref11_Lift.f kj4 (y362 ++ y365) (l0.length : Int)).bind fun t371 => ((samphireref10_Same.f kj4 t334 t371).bind fun t374 => (samphirelaw11_HeapTells.j1 kj4 l0 a2 a3 t341 t344 t346 t349 t350 t351 t358 (!t374) a1_0 a1_1 a1_2 t338 t339 t340))) else (none))) = some r := by first | (rw [hy362]; with_reducible exact H) | (have H2_ := (Option.bind_some _ _).symm.trans H; rw [hy362]; with_reducible exact H2_) | (have H2_ := (Option.bind_some _ _).symm.trans H; with_reducible exact H2_) | with_reducible exact H | (rw [hy362]; exact H) | exact H
         have Ny362 := Aside0.mk hy362
         clear hy362
         obtain ⟨y365, hy365⟩ : ∃ y_ : List (S25), y_ = (([(⟨a1_0, a1_1, a1_2⟩ : S25)] : List (S25))) := ⟨_, rfl⟩
         replace H : (if y362.length + y365.length < 4398046511104 then ((samphireref11_Lift.f kj4 (y362 ++ y365) (l0.length : Int)).bind fun t371 => ((samphireref10_Same.f kj4 t334 t371).bind fun t374 => (samphirelaw11_HeapTells.j1 kj4 l0 a2 a3 t341 t344 t346 t349 t350 t351 t358 (!t374) a1_0 a1_1 a1_2 t338 t339 t340))) else (none)) = some r := by first | (rw [hy365]; with_reducible exact H) | (have H2_ := (Option.bind_some _ _).symm.trans H; rw [hy365]; with_reducible exact H2_) | (have H2_ := (Option.bind_some _ _).symm.trans H; with_reducible exact H2_) | with_reducible exact H | (rw [hy365]; exact H) | exact H
         have Ny365 := Aside0.mk hy365
         clear hy365
         by_cases c39 : y362.length + y365.length < 4398046511104
         ·
          rw [if_pos c39] at H
          have LMc39 := Aside0.mk c39
          clear c39
          obtain ⟨y368, hy368⟩ : ∃ y_ : List (S25), y_ = (y362 ++ y365) := ⟨_, rfl⟩
          replace H : ((samphireref11_Lift.f kj4 y368 (l0.length : Int)).bind fun t371 => ((samphireref10_Same.f kj4 t334 t371).bind fun t374 => (samphirelaw11_HeapTells.j1 kj4 l0 a2 a3 t341 t344 t346 t349 t350 t351 t358 (!t374) a1_0 a1_1 a1_2 t338 t339 t340))) = some r := by first | (rw [hy368]; with_reducible exact H) | (have H2_ := (Option.bind_some _ _).symm.trans H; rw [hy368]; with_reducible exact H2_) | (have H2_ := (Option.bind_some _ _).symm.trans H; with_reducible exact H2_) | with_reducible exact H | (rw [hy368]; exact H) | exact H
          have Ny368 := Aside0.mk hy368
          clear hy368
          replace H := Option.bind_eq_some_iff.mp H
          obtain ⟨t371, A400, H⟩ := H
          replace H : ((samphireref10_Same.f kj4 t334 t371).bind fun t374 => (samphirelaw11_HeapTells.j1 kj4 l0 a2 a3 t341 t344 t346 t349 t350 t351 t358 (!t374) a1_0 a1_1 a1_2 t338 t339 t340)) = some r := H
          have A40 := Aside0.mk A400
          clear A400
          replace H := Option.bind_eq_some_iff.mp H
          obtain ⟨t374, A410, H⟩ := H
          replace H : (samphirelaw11_HeapTells.j1 kj4 l0 a2 a3 t341 t344 t346 t349 t350 t351 t358 (!t374) a1_0 a1_1 a1_2 t338 t339 t340) = some r := H
          have A41 := Aside0.mk A410
          clear A410
          have H' := Aside0.mk H
          clear H
          obtain ⟨Ao42, co42, eo42⟩ := Kd.V_slice HO336.out
          subst eo42
          try go_wp2
          have n0_ := Aside0.mk (Kd.V_drew HO336.out)
          have n1_ := Aside0.mk (Kd.V_drew HO343.out)
          have n2_ := Aside0.mk (Kd.V_drew HO348.out)
          have n3_ := Aside0.mk (blk_drew BK331.out)
          have n4_ := Aside0.mk (blk_drew BK345.out)
          have n5_ := Aside0.mk (below_drew1 HB.out)
          clear HO336 HO343 HO348 BK331 BK345 HB
          have HO336 := n0_
          have HO343 := n1_
          have HO348 := n2_
          have BK331 := n3_
          have BK345 := n4_
          have HB := n5_
          clear n0_ n1_ n2_ n3_ n4_ n5_
          refine start_ (n := 31) (S := fun w' => w'.cell? ⟨gb331, 0, none⟩ = some (.string a1_0) ∧ w'.cell? ⟨gb331, 1, none⟩ = some (.int .u64 a1_1) ∧ w'.cell? ⟨gb331, 2, none⟩ = some (.int .u64 a1_2)) (ds := []) #[false, false, false, false, false, false, false, false, false, false, false, false, false, false, false, false, false, false, false, false, false, false, false, false, false, false, false, false, false, false, false] (by kernel_rfl) rfl rfl ⟨(blk_cell BK331.out 0).trans rfl, (blk_cell BK331.out 1).trans rfl, (blk_cell BK331.out 2).trans rfl⟩ (fun hHeld => ?_); refine with_tabW samphirelaw11_HeapTells.tab10 samphirelaw11_HeapTells.bits10 (fun HT_ HW_ => ?_)
          generalize w35.drew = w43 at HO336 HO343 HO348 BK331 BK345 HB hHeld ⊢
          refine pure_ (i := 0) (N := some 112) (v := ?_) (a' := ?_) #[true, false, false, false, false, false, false, false, false, false, false, false, false, false, false, false, false, false, false, false, false, false, false, false, false, false, false, false, false, false, false] rfl rfl (any_of HT_.out (by kernel_rfl)) (fun _ _ _ h => h) (Or.inl ⟨by rfl, ?_⟩) ?_ ?_
          rotate_left
          ·
           intro w'
           go_simp
           with_reducible rfl
          rotate_left
          · exact bA
          refine pure_ (i := 1) (N := some 113) (v := ?_) (a' := ?_) #[true, true, false, false, false, false, false, false, false, false, false, false, false, false, false, false, false, false, false, false, false, false, false, false, false, false, false, false, false, false, false] rfl rfl (any_of HT_.out (by kernel_rfl)) (fun _ _ _ h => h) (Or.inl ⟨by rfl, ?_⟩) ?_ ?_
          rotate_left
          ·
           intro w'
           go_simp
           with_reducible rfl
          rotate_left
          · exact bA
          refine pure_ (i := 2) (N := some 114) (v := ?_) (a' := ?_) #[true, true, true, false, false, false, false, false, false, false, false, false, false, false, false, false, false, false, false, false, false, false, false, false, false, false, false, false, false, false, false] rfl rfl (any_of HT_.out (by kernel_rfl)) (fun _ _ _ h => h) (Or.inl ⟨by rfl, ?_⟩) ?_ ?_
          rotate_left
          ·
           intro w'
           go_simp
           with_reducible rfl
          rotate_left
          · exact bA
          refine pure_ (i := 3) (N := some 115) (v := ?_) (a' := ?_) #[true, true, true, true, false, false, false, false, false, false, false, false, false, false, false, false, false, false, false, false, false, false, false, false, false, false, false, false, false, false, false] rfl rfl (any_of HT_.out (by kernel_rfl)) (fun _ _ _ h => h) (Or.inl ⟨by rfl, ?_⟩) ?_ ?_
          rotate_left
          ·
           intro w'
           go_simp
           with_reducible rfl
          rotate_left
          · exact bA
          refine pure_ (i := 4) (N := some 116) (v := ?_) (a' := ?_) #[true, true, true, true, true, false, false, false, false, false, false, false, false, false, false, false, false, false, false, false, false, false, false, false, false, false, false, false, false, false, false] rfl rfl (any_of HT_.out (by kernel_rfl)) (fun _ _ _ h => h) (Or.inl ⟨by rfl, ?_⟩) ?_ ?_
          rotate_left
          ·
           intro w'
           go_simp
           with_reducible rfl
          rotate_left
          · exact bA
          refine pure_ (i := 5) (N := some 117) (v := ?_) (a' := ?_) #[true, true, true, true, true, true, false, false, false, false, false, false, false, false, false, false, false, false, false, false, false, false, false, false, false, false, false, false, false, false, false] rfl rfl (any_of HT_.out (by kernel_rfl)) (fun _ _ _ h => h) (Or.inl ⟨by rfl, ?_⟩) ?_ ?_
          rotate_left
          ·
           intro w'
           go_simp
           with_reducible rfl
          rotate_left
          · exact bA
          refine pure_ (i := 6) (N := some 118) (v := ?_) (a' := ?_) #[true, true, true, true, true, true, true, false, false, false, false, false, false, false, false, false, false, false, false, false, false, false, false, false, false, false, false, false, false, false, false] rfl rfl (any_of HT_.out (by kernel_rfl)) (fun _ _ _ h => h) (Or.inl ⟨by rfl, ?_⟩) ?_ ?_
          rotate_left
          ·
           intro w'
           go_simp
           with_reducible rfl
          rotate_left
          · exact bA
          refine pure_ (i := 7) (N := some 119) (v := undef) (a' := ?_) #[true, true, true, true, true, true, true, true, false, false, false, false, false, false, false, false, false, false, false, false, false, false, false, false, false, false, false, false, false, false, false] rfl rfl (any_of HT_.out (by kernel_rfl)) (fun _ _ _ h => h) (Or.inr ⟨by rfl, rfl⟩) ?_ ?_
          rotate_left
          · exact bA
          refine pure_ (i := 8) (N := some 120) (v := undef) (a' := ?_) #[true, true, true, true, true, true, true, true, true, false, false, false, false, false, false, false, false, false, false, false, false, false, false, false, false, false, false, false, false, false, false] rfl rfl (any_of HT_.out (by kernel_rfl)) (fun _ _ _ h => h) (Or.inr ⟨by rfl, rfl⟩) ?_ ?_
          rotate_left
          · exact bA
          refine pure_ (i := 9) (N := some 121) (v := undef) (a' := ?_) #[true, true, true, true, true, true, true, true, true, true, false, false, false, false, false, false, false, false, false, false, false, false, false, false, false, false, false, false, false, false, false] rfl rfl (any_of HT_.out (by kernel_rfl)) (fun _ _ _ h => h) (Or.inr ⟨by rfl, rfl⟩) ?_ ?_
          rotate_left
          · exact bA
          refine pure_ (i := 10) (N := some 122) (v := undef) (a' := ?_) #[true, true, true, true, true, true, true, true, true, true, true, false, false, false, false, false, false, false, false, false, false, false, false, false, false, false, false, false, false, false, false] rfl rfl (any_of HT_.out (by kernel_rfl)) (fun _ _ _ h => h) (Or.inr ⟨by rfl, rfl⟩) ?_ ?_
          rotate_left
          · exact bA
          refine pure_ (i := 11) (N := some 123) (v := ?_) (a' := ?_) #[true, true, true, true, true, true, true, true, true, true, true, true, false, false, false, false, false, false, false, false, false, false, false, false, false, false, false, false, false, false, false] rfl rfl (any_of HT_.out (by kernel_rfl)) (fun _ _ _ h => h) (Or.inl ⟨by rfl, ?_⟩) ?_ ?_
          rotate_left
          ·
           intro w'
           go_simp
           with_reducible rfl
          rotate_left
          · exact bA
          refine pure_ (i := 12) (N := some 124) (v := ?_) (a' := ?_) #[true, true, true, true, true, true, true, true, true, true, true, true, true, false, false, false, false, false, false, false, false, false, false, false, false, false, false, false, false, false, false] rfl rfl (any_of HT_.out (by kernel_rfl)) (fun _ _ _ h => h) (Or.inl ⟨by rfl, ?_⟩) ?_ ?_
          rotate_left
          ·
           intro w'
           go_simp
           with_reducible rfl
          rotate_left
          · exact bA
          refine pure_ (i := 13) (N := some 125) (v := ?_) (a' := ?_) #[true, true, true, true, true, true, true, true, true, true, true, true, true, true, false, false, false, false, false, false, false, false, false, false, false, false, false, false, false, false, false] rfl rfl (any_of HT_.out (by kernel_rfl)) (fun _ _ _ h => h) (Or.inl ⟨by rfl, ?_⟩) ?_ ?_
          rotate_left
          ·
           intro w'
           go_simp
           with_reducible rfl
          rotate_left
          · exact bA
          refine pure_ (i := 14) (N := some 126) (v := ?_) (a' := ?_) #[true, true, true, true, true, true, true, true, true, true, true, true, true, true, true, false, false, false, false, false, false, false, false, false, false, false, false, false, false, false, false] rfl rfl (any_of HT_.out (by kernel_rfl)) (fun _ _ _ h => h) (Or.inl ⟨by rfl, ?_⟩) ?_ ?_
          rotate_left
          ·
           intro w'
           go_simp
           with_reducible rfl
          rotate_left
          · exact bA
          refine pure_ (i := 15) (N := some 127) (v := ?_) (a' := ?_) #[true, true, true, true, true, true, true, true, true, true, true, true, true, true, true, true, false, false, false, false, false, false, false, false, false, false, false, false, false, false, false] rfl rfl (any_of HT_.out (by kernel_rfl)) (fun _ _ _ h => h) (Or.inl ⟨by rfl, ?_⟩) ?_ ?_
          rotate_left
          ·
           intro w'
           go_simp
           with_reducible rfl
          rotate_left
          · exact bA
          refine pure_ (i := 16) (N := some 128) (v := ?_) (a' := ?_) #[true, true, true, true, true, true, true, true, true, true, true, true, true, true, true, true, true, false, false, false, false, false, false, false, false, false, false, false, false, false, false] rfl rfl (any_of HT_.out (by kernel_rfl)) (fun _ _ _ h => h) (Or.inl ⟨by rfl, ?_⟩) ?_ ?_
          rotate_left
          ·
           intro w'
           go_simp
           with_reducible rfl
          rotate_left
          · exact bA
          refine pure_ (i := 17) (N := some 129) (v := ?_) (a' := ?_) #[true, true, true, true, true, true, true, true, true, true, true, true, true, true, true, true, true, true, false, false, false, false, false, false, false, false, false, false, false, false, false] rfl rfl (any_of HT_.out (by kernel_rfl)) (fun _ _ _ h => h) (Or.inl ⟨by rfl, ?_⟩) ?_ ?_
          rotate_left
          ·
           intro w'
           go_simp
           with_reducible rfl
          rotate_left
          · exact bA
          refine pure_ (i := 19) (N := some 131) (v := ?_) (a' := ?_) #[true, true, true, true, true, true, true, true, true, true, true, true, true, true, true, true, true, true, false, true, false, false, false, false, false, false, false, false, false, false, false] rfl rfl (any_of HT_.out (by kernel_rfl)) (fun _ _ _ h => h) (Or.inl ⟨by rfl, ?_⟩) ?_ ?_
          rotate_left
          ·
           intro w'
           go_simp
           with_reducible rfl
          rotate_left
          · exact bA
          refine pure_ (i := 24) (N := some 136) (v := ?_) (a' := ?_) #[true, true, true, true, true, true, true, true, true, true, true, true, true, true, true, true, true, true, false, true, false, false, false, false, true, false, false, false, false, false, false] rfl rfl (any_of HT_.out (by kernel_rfl)) (fun _ _ _ h => h) (Or.inl ⟨by rfl, ?_⟩) ?_ ?_
          rotate_left
          ·
           intro w'
           go_simp
           with_reducible rfl
          rotate_left
          · exact bA
          refine pure_ (i := 25) (N := some 137) (v := ?_) (a' := ?_) #[true, true, true, true, true, true, true, true, true, true, true, true, true, true, true, true, true, true, false, true, false, false, false, false, true, true, false, false, false, false, false] rfl rfl (any_of HT_.out (by kernel_rfl)) (fun _ _ _ h => h) (Or.inl ⟨by rfl, ?_⟩) ?_ ?_
          rotate_left
          ·
           intro w'
           go_simp
           with_reducible rfl
          rotate_left
          · exact bA
          refine take_ (i := 21) (N := some 133) (v := ?_) (a' := ?_) #[true, true, true, true, true, true, true, true, true, true, true, true, true, true, true, true, true, true, false, true, false, true, false, false, true, true, false, false, false, false, false] rfl rfl (take_ofW HT_.out HW_.out (by kernel_rfl)) (fun _ _ _ h => h) (Or.inl ⟨by rfl, ?_⟩) hHeld ?_ ?_
          rotate_left
          ·
           rintro w' ⟨s0, s1, s2⟩
           go_simp
           with_reducible rfl
          rotate_left
          · exact bA
          refine join_ (σ := Value × Value × Value) 6 #[true, true, true, true, true, true, true, true, true, true, true, true, true, true, true, true, true, true, true, true, true, true, true, false, true, true, false, false, false, false, false] (fun s_ => [(130, s_.1), (132, s_.2.1), (134, s_.2.2)]) (fun s_ w' => (w'.cell? ⟨gb331, 0, none⟩ = some (.string a1_0) ∧ w'.cell? ⟨gb331, 1, none⟩ = some (.int .u64 a1_1) ∧ w'.cell? ⟨gb331, 2, none⟩ = some (.int .u64 a1_2)) ∧ (Kd.V k25 25 w' w.heap.size (fun k_ => some k_ ≠ (s_.2.1 : Value).ownBlock ∧ some k_ ≠ (s_.2.2 : Value).ownBlock ∧ k_ ≠ gb331 ∧ k_ ≠ gb345) (.slice Ao42 t334.length co42) t334) ∧ (Kd.V k25 25 w' w.heap.size (fun k_ => some k_ ≠ (s_.2.1 : Value).ownBlock ∧ some k_ ≠ (s_.2.2 : Value).ownBlock ∧ k_ ≠ gb331 ∧ k_ ≠ gb345) v342 t341) ∧ (Kd.V k25 25 w' w.heap.size (fun k_ => some k_ ≠ (s_.2.1 : Value).ownBlock ∧ some k_ ≠ (s_.2.2 : Value).ownBlock ∧ k_ ≠ gb331 ∧ k_ ≠ gb345) v347 t346) ∧ (Kd.R k25 25 w' w.heap.size (fun k_ => some k_ ≠ (s_.2.2 : Value).ownBlock ∧ k_ ≠ gb331 ∧ k_ ≠ gb345) s_.2.1 y362) ∧ (Kd.R k25 25 w' w.heap.size (fun k_ => some k_ ≠ (s_.2.1 : Value).ownBlock ∧ k_ ≠ gb331 ∧ k_ ≠ gb345) s_.2.2 y365) ∧ (w'.heap[gb331]? = some (.cells #[.string a1_0, .int .u64 a1_1, .int .u64 a1_2] 25 (0, 0))) ∧ (w'.heap[gb345]? = some (.cells #[.string t338, .int .u64 t339, .int .u64 t340] 25 (0, 0))) ∧ (Below w.heap.size w w')) ?_ ?_
          rotate_left
          ·
           intro hCont
           refine two_ (i := 18) (j := 22) (Ni := some 130) (Nj := some 134) #[true, true, true, true, true, true, true, true, true, true, true, true, true, true, true, true, true, true, true, true, false, true, false, false, true, true, false, false, false, false, false] #[true, true, true, true, true, true, true, true, true, true, true, true, true, true, true, true, true, true, false, true, false, true, true, false, true, true, false, false, false, false, false] rfl rfl rfl rfl (two_of HT_.out (by kernel_rfl)) (by decide) (by decide) (fun K hK => ?_) (fun K hK => ?_)
           ·
            skip
            refine Kd.R_lit_step k25 _ 25 ?hg (N := 130) ?hd (xs := ([] : List (S25))) (inner := []) (ok := fun _ => True) (okp := fun _ => True) ?hr ?hp (fun _ hk => hk) trivial (Below.refl _ _) (Nat.le_refl _) (by simp) ?_; (case hd => rfl); (case hg => rfl); (case hr => first | (go_simp; done) | (go_simp; rfl)); (case hp => exact (Reps.none _ _))
            intro v360 w44 ho45 hb hg_ hnew_
            clear hg_ hnew_
            (first | rw [← Ny359.out] at ho45 | (simp only [Int.reduceToNat] at ho45; rw [← Ny359.out] at ho45))
            have n0_ := Aside0.mk (Kd.V_elder' (by (with_reducible repeat (first | apply Kd.V_alloc | apply Kd.V_drewN | apply Kd.V_drew)); exact HO336.out) (Kd.R_base ho45) hb)
            have n1_ := Aside0.mk (Kd.V_elder' (by (with_reducible repeat (first | apply Kd.V_alloc | apply Kd.V_drewN | apply Kd.V_drew)); exact HO343.out) (Kd.R_base ho45) hb)
            have n2_ := Aside0.mk (Kd.V_elder' (by (with_reducible repeat (first | apply Kd.V_alloc | apply Kd.V_drewN | apply Kd.V_drew)); exact HO348.out) (Kd.R_base ho45) hb)
            have n3_ := Aside0.mk (Kd.R_lower (Kd.R_newB (Kd.R_newB ho45 (bT BK331.out)) (bT BK345.out)) (below_size (bW HB.out)))
            have n4_ := Aside0.mk (blk_below (bT BK331.out) hb)
            have n5_ := Aside0.mk (blk_below (bT BK345.out) hb)
            have n6_ := Aside0.mk (below_step (bW HB.out) hb)
            clear HO336 HO343 HO348 BK331 BK345 HB
            have HO336 := n0_
            have HO343 := n1_
            have HO348 := n2_
            have HO361 := n3_
            have BK331 := n4_
            have BK345 := n5_
            have HB := n6_
            clear n0_ n1_ n2_ n3_ n4_ n5_ n6_ hb ho45
            refine hK.out _ _ ⟨(blk_cell BK331.out 0).trans rfl, (blk_cell BK331.out 1).trans rfl, (blk_cell BK331.out 2).trans rfl⟩ (fun hHeld => ?_)
            clear hK K
            refine norm_ (a' := ?_) ?_ ?_
            rotate_left
            ·
             show Act.put _ (some 130) _ = _
             simp only [Act.put, List.setIfInBounds_toArray, List.set_cons_zero, List.set_cons_succ, i64_w, i32_w]
             rfl
            refine two_ (i := 20) (j := 22) (Ni := some 132) (Nj := some 134) #[true, true, true, true, true, true, true, true, true, true, true, true, true, true, true, true, true, true, true, true, true, true, false, false, true, true, false, false, false, false, false] #[true, true, true, true, true, true, true, true, true, true, true, true, true, true, true, true, true, true, true, true, false, true, true, false, true, true, false, false, false, false, false] rfl rfl rfl rfl (two_of HT_.out (by kernel_rfl)) (by decide) (by decide) (fun K hK => ?_) (fun K hK => ?_)
            ·
             skip
             refine Kd.R_append_rows_step k25 (w0 := w) w.heap.size (by rfl) (.tmp 130) (.tmp 131) 22 25 (.agg #[(.string ⟨#[]⟩), (.int .u64 0), (.int .u64 0)]) 32 rfl Try.underlying22 info25 rfl (by decide) (by omega) v360 y359 l0 _ _ _ (fun k_ => k_ ≠ gb331 ∧ k_ ≠ gb345) (fun _ => False) rfl rfl ?aO ?aR (fun _ _ h => h) (fun _ h => h.elim) ?aF ?aB ?aS ?aL ?_
             (case aR => repeat (first | exact (Kd.C_below HR0.out HB.out) | (with_reducible refine Kd.C_alloc ?_ _) | (with_reducible refine Kd.C_drewN ?_ _) | (with_reducible refine Kd.C_drew ?_)))
             (case aB => exact (bW HB.out))
             (case aF => exact (fun k_ hk => ⟨Kd.freshB (bT BK331.out) k_ hk, Kd.freshB (bT BK345.out) k_ hk⟩))
             (case aO => exact (by (with_reducible repeat (first | apply Kd.R_alloc | apply Kd.R_drewN | apply Kd.R_drew)); exact Kd.R_mono HO361.out (fun _ hk => ⟨hk.1.2, hk.2⟩)))
             (case aS => exact (below_size (bW HB.out)))
             (case aL => have := LMc38.out; omega)
             intro v363 w46 ho hb hg hat
             rw [← Ny362.out] at ho
             have n0_ := Aside0.mk (blk_grown (bT BK331.out) hg (Kd.R_away HO361.out (fun _ hk => hk.1.2)))
             have n1_ := Aside0.mk (Kd.V_afterv (ok := (fun k_ => k_ ≠ gb331 ∧ k_ ≠ gb345)) (by (with_reducible repeat (first | apply Kd.V_alloc | apply Kd.V_drewN | apply Kd.V_drew)); exact HO336.out) hg hat)
             have n2_ := Aside0.mk (Kd.V_afterv (ok := (fun k_ => k_ ≠ gb331 ∧ k_ ≠ gb345)) (by (with_reducible repeat (first | apply Kd.V_alloc | apply Kd.V_drewN | apply Kd.V_drew)); exact HO343.out) hg hat)
             have n3_ := Aside0.mk (blk_grown (bT BK345.out) hg (Kd.R_away HO361.out (fun _ hk => hk.2)))
             have n4_ := Aside0.mk (Kd.V_afterv (ok := (fun k_ => k_ ≠ gb331 ∧ k_ ≠ gb345)) (by (with_reducible repeat (first | apply Kd.V_alloc | apply Kd.V_drewN | apply Kd.V_drew)); exact HO348.out) hg hat)
             have n5_ := Aside0.mk (hb)
             have n6_ := Aside0.mk (ho)
             clear BK331 HO336 HO343 BK345 HO348 HB HO361
             have BK331 := n0_
             have HO336 := n1_
             have HO343 := n2_
             have BK345 := n3_
             have HO348 := n4_
             have HB := n5_
             have HO364 := n6_
             clear n0_ n1_ n2_ n3_ n4_ n5_ n6_ ho hb hg hat
             refine hK.out _ _ ⟨(blk_cell BK331.out 0).trans rfl, (blk_cell BK331.out 1).trans rfl, (blk_cell BK331.out 2).trans rfl⟩ (fun hHeld => ?_)
             clear hK K
             refine norm_ (a' := ?_) ?_ ?_
             rotate_left
             ·
              show Act.put _ (some 132) _ = _
              simp only [Act.put, List.setIfInBounds_toArray, List.set_cons_zero, List.set_cons_succ, i64_w, i32_w]
              rfl
             refine one_ (i := 22) (N := some 134) #[true, true, true, true, true, true, true, true, true, true, true, true, true, true, true, true, true, true, true, true, true, true, true, false, true, true, false, false, false, false, false] rfl rfl (one_of HT_.out (by kernel_rfl)) (by decide) (fun K hK => ?_)
             refine Kd.R_lit_step k25 _ 25 ?hg (N := 134) ?hd (xs := ([(⟨a1_0, a1_1, a1_2⟩ : S25)] : List (S25))) (inner := [.string a1_0, .int .u64 a1_1, .int .u64 a1_2]) (ok := fun _ => True) (okp := fun _ => True) ?hr ?hp (fun _ hk => hk) trivial (Below.refl _ _) (Nat.le_refl _) (by simp) ?_; (case hd => rfl); (case hg => rfl); (case hr => first | (go_simp; done) | (go_simp; rfl)); (case hp => exact (Reps.c3 (show Kd.M k25 _ _ _ (⟨a1_0, a1_1, a1_2⟩ : S25) [.string a1_0, .int .u64 a1_1, .int .u64 a1_2] from (k25_mkM _ _ _ (⟨a1_0, a1_1, a1_2⟩ : S25) )) (Reps.none _ _)))
             intro v366 w47 ho48 hb hg_ hnew_
             clear hg_ hnew_
             (first | rw [← Ny365.out] at ho48 | (simp only [Int.reduceToNat] at ho48; rw [← Ny365.out] at ho48))
             have n0_ := Aside0.mk (Kd.V_elder' (by (with_reducible repeat (first | apply Kd.V_alloc | apply Kd.V_drewN | apply Kd.V_drew)); exact HO336.out) (Kd.R_base ho48) hb)
             have n1_ := Aside0.mk (Kd.V_elder' (by (with_reducible repeat (first | apply Kd.V_alloc | apply Kd.V_drewN | apply Kd.V_drew)); exact HO343.out) (Kd.R_base ho48) hb)
             have n2_ := Aside0.mk (Kd.V_elder' (by (with_reducible repeat (first | apply Kd.V_alloc | apply Kd.V_drewN | apply Kd.V_drew)); exact HO348.out) (Kd.R_base ho48) hb)
             have n3_ := Aside0.mk (Kd.R_elder' (by (with_reducible repeat (first | apply Kd.R_alloc | apply Kd.R_drewN | apply Kd.R_drew)); exact HO364.out) (Kd.R_base ho48) hb)
             have n4_ := Aside0.mk (Kd.R_lower (Kd.R_newB (Kd.R_newB (Kd.R_new' ho48 (Kd.R_lt (by (with_reducible repeat (first | apply Kd.R_alloc | apply Kd.R_drewN | apply Kd.R_drew)); exact HO364.out))) (bT BK331.out)) (bT BK345.out)) (below_size (bW HB.out)))
             have n5_ := Aside0.mk (blk_below (bT BK331.out) hb)
             have n6_ := Aside0.mk (blk_below (bT BK345.out) hb)
             have n7_ := Aside0.mk (below_step (bW HB.out) hb)
             clear HO336 HO343 HO348 HO364 BK331 BK345 HB
             have HO336 := n0_
             have HO343 := n1_
             have HO348 := n2_
             have HO364 := n3_
             have HO367 := n4_
             have BK331 := n5_
             have BK345 := n6_
             have HB := n7_
             clear n0_ n1_ n2_ n3_ n4_ n5_ n6_ n7_ hb ho48
             refine hK.out _ _ ⟨(blk_cell BK331.out 0).trans rfl, (blk_cell BK331.out 1).trans rfl, (blk_cell BK331.out 2).trans rfl⟩ (fun hHeld => ?_)
             clear hK K
             refine norm_ (a' := ?_) ?_ ?_
             rotate_left
             ·
              show Act.put _ (some 134) _ = _
              simp only [Act.put, List.setIfInBounds_toArray, List.set_cons_zero, List.set_cons_succ, i64_w, i32_w]
              rfl
             exact norm_ (by simp only [putAll, Act.put, List.setIfInBounds_toArray, List.set_cons_zero, List.set_cons_succ]) (hCont (v360, v363, v366) _ ⟨hHeld, (by (with_reducible repeat (first | apply Kd.V_alloc | apply Kd.V_drewN | apply Kd.V_drew)); exact Kd.V_mono HO336.out (fun _ hk => ⟨hk.1.2, ⟨hk.2, ⟨hk.1.1.1, hk.1.1.2⟩⟩⟩)), (by (with_reducible repeat (first | apply Kd.V_alloc | apply Kd.V_drewN | apply Kd.V_drew)); exact Kd.V_mono HO343.out (fun _ hk => ⟨hk.1.2, ⟨hk.2, ⟨hk.1.1.1, hk.1.1.2⟩⟩⟩)), (by (with_reducible repeat (first | apply Kd.V_alloc | apply Kd.V_drewN | apply Kd.V_drew)); exact Kd.V_mono HO348.out (fun _ hk => ⟨hk.1.2, ⟨hk.2, ⟨hk.1.1.1, hk.1.1.2⟩⟩⟩)), (by (with_reducible repeat (first | apply Kd.R_alloc | apply Kd.R_drewN | apply Kd.R_drew)); exact Kd.R_mono HO364.out (fun _ hk => ⟨hk.2, ⟨hk.1.1, hk.1.2⟩⟩)), (by (with_reducible repeat (first | apply Kd.R_alloc | apply Kd.R_drewN | apply Kd.R_drew)); exact Kd.R_mono HO367.out (fun _ hk => ⟨hk.1.1.2, ⟨hk.1.2, hk.2⟩⟩)), (bT BK331.out), (bT BK345.out), (bW HB.out)⟩)
            ·
             skip
             refine Kd.R_lit_step k25 _ 25 ?hg (N := 134) ?hd (xs := ([(⟨a1_0, a1_1, a1_2⟩ : S25)] : List (S25))) (inner := [.string a1_0, .int .u64 a1_1, .int .u64 a1_2]) (ok := fun _ => True) (okp := fun _ => True) ?hr ?hp (fun _ hk => hk) trivial (Below.refl _ _) (Nat.le_refl _) (by simp) ?_; (case hd => rfl); (case hg => rfl); (case hr => first | (go_simp; done) | (go_simp; rfl)); (case hp => exact (Reps.c3 (show Kd.M k25 _ _ _ (⟨a1_0, a1_1, a1_2⟩ : S25) [.string a1_0, .int .u64 a1_1, .int .u64 a1_2] from (k25_mkM _ _ _ (⟨a1_0, a1_1, a1_2⟩ : S25) )) (Reps.none _ _)))
             intro v366 w46 ho47 hb hg_ hnew_
             clear hg_ hnew_
             (first | rw [← Ny365.out] at ho47 | (simp only [Int.reduceToNat] at ho47; rw [← Ny365.out] at ho47))
             have n0_ := Aside0.mk (Kd.V_elder' (by (with_reducible repeat (first | apply Kd.V_alloc | apply Kd.V_drewN | apply Kd.V_drew)); exact HO336.out) (Kd.R_base ho47) hb)
             have n1_ := Aside0.mk (Kd.V_elder' (by (with_reducible repeat (first | apply Kd.V_alloc | apply Kd.V_drewN | apply Kd.V_drew)); exact HO343.out) (Kd.R_base ho47) hb)
             have n2_ := Aside0.mk (Kd.V_elder' (by (with_reducible repeat (first | apply Kd.V_alloc | apply Kd.V_drewN | apply Kd.V_drew)); exact HO348.out) (Kd.R_base ho47) hb)
             have n3_ := Aside0.mk (Kd.R_elder' (by (with_reducible repeat (first | apply Kd.R_alloc | apply Kd.R_drewN | apply Kd.R_drew)); exact HO361.out) (Kd.R_base ho47) hb)
             have n4_ := Aside0.mk (Kd.R_lower (Kd.R_newB (Kd.R_newB (Kd.R_new' ho47 (Kd.R_lt (by (with_reducible repeat (first | apply Kd.R_alloc | apply Kd.R_drewN | apply Kd.R_drew)); exact HO361.out))) (bT BK331.out)) (bT BK345.out)) (below_size (bW HB.out)))
             have n5_ := Aside0.mk (blk_below (bT BK331.out) hb)
             have n6_ := Aside0.mk (blk_below (bT BK345.out) hb)
             have n7_ := Aside0.mk (below_step (bW HB.out) hb)
             clear HO336 HO343 HO348 HO361 BK331 BK345 HB
             have HO336 := n0_
             have HO343 := n1_
             have HO348 := n2_
             have HO361 := n3_
             have HO367 := n4_
             have BK331 := n5_
             have BK345 := n6_
             have HB := n7_
             clear n0_ n1_ n2_ n3_ n4_ n5_ n6_ n7_ hb ho47
             refine hK.out _ _ ⟨(blk_cell BK331.out 0).trans rfl, (blk_cell BK331.out 1).trans rfl, (blk_cell BK331.out 2).trans rfl⟩ (fun hHeld => ?_)
             clear hK K
             refine norm_ (a' := ?_) ?_ ?_
             rotate_left
             ·
              show Act.put _ (some 134) _ = _
              simp only [Act.put, List.setIfInBounds_toArray, List.set_cons_zero, List.set_cons_succ, i64_w, i32_w]
              rfl
             refine one_ (i := 20) (N := some 132) #[true, true, true, true, true, true, true, true, true, true, true, true, true, true, true, true, true, true, true, true, true, true, true, false, true, true, false, false, false, false, false] rfl rfl (one_of HT_.out (by kernel_rfl)) (by decide) (fun K hK => ?_)
             refine Kd.R_append_rows_step k25 (w0 := w) w.heap.size (by rfl) (.tmp 130) (.tmp 131) 22 25 (.agg #[(.string ⟨#[]⟩), (.int .u64 0), (.int .u64 0)]) 32 rfl Try.underlying22 info25 rfl (by decide) (by omega) v360 y359 l0 _ _ _ (fun k_ => some k_ ≠ (v366 : Value).ownBlock ∧ k_ ≠ gb331 ∧ k_ ≠ gb345) (fun _ => False) rfl rfl ?aO ?aR (fun _ _ h => h) (fun _ h => h.elim) ?aF ?aB ?aS ?aL ?_
             (case aR => repeat (first | exact (Kd.C_below HR0.out HB.out) | (with_reducible refine Kd.C_alloc ?_ _) | (with_reducible refine Kd.C_drewN ?_ _) | (with_reducible refine Kd.C_drew ?_)))
             (case aB => exact (bW HB.out))
             (case aF => exact (fun k_ hk => ⟨Kd.fresh' (Kd.R_lt (by (with_reducible repeat (first | apply Kd.R_alloc | apply Kd.R_drewN | apply Kd.R_drew)); exact HO367.out)) k_ hk, Kd.freshB (bT BK331.out) k_ hk, Kd.freshB (bT BK345.out) k_ hk⟩))
             (case aO => exact (by (with_reducible repeat (first | apply Kd.R_alloc | apply Kd.R_drewN | apply Kd.R_drew)); exact Kd.R_mono HO361.out (fun _ hk => ⟨hk.2, ⟨hk.1.1.2, hk.1.2⟩⟩)))
             (case aS => exact (below_size (bW HB.out)))
             (case aL => have := LMc38.out; omega)
             intro v363 w48 ho hb hg hat
             rw [← Ny362.out] at ho
             have n0_ := Aside0.mk (blk_grown (bT BK331.out) hg (Kd.R_away HO361.out (fun _ hk => hk.1.1.2)))
             have n1_ := Aside0.mk (Kd.V_afterv (ok := (fun k_ => some k_ ≠ (v366 : Value).ownBlock ∧ k_ ≠ gb331 ∧ k_ ≠ gb345)) (by (with_reducible repeat (first | apply Kd.V_alloc | apply Kd.V_drewN | apply Kd.V_drew)); exact Kd.V_mono HO336.out (fun _ hk => ⟨⟨hk.2, ⟨hk.1.1.1, hk.1.1.2⟩⟩, hk.1.2⟩)) hg hat)
             have n2_ := Aside0.mk (Kd.V_afterv (ok := (fun k_ => some k_ ≠ (v366 : Value).ownBlock ∧ k_ ≠ gb331 ∧ k_ ≠ gb345)) (by (with_reducible repeat (first | apply Kd.V_alloc | apply Kd.V_drewN | apply Kd.V_drew)); exact Kd.V_mono HO343.out (fun _ hk => ⟨⟨hk.2, ⟨hk.1.1.1, hk.1.1.2⟩⟩, hk.1.2⟩)) hg hat)
             have n3_ := Aside0.mk (blk_grown (bT BK345.out) hg (Kd.R_away HO361.out (fun _ hk => hk.1.2)))
             have n4_ := Aside0.mk (Kd.V_afterv (ok := (fun k_ => some k_ ≠ (v366 : Value).ownBlock ∧ k_ ≠ gb331 ∧ k_ ≠ gb345)) (by (with_reducible repeat (first | apply Kd.V_alloc | apply Kd.V_drewN | apply Kd.V_drew)); exact Kd.V_mono HO348.out (fun _ hk => ⟨⟨hk.2, ⟨hk.1.1.1, hk.1.1.2⟩⟩, hk.1.2⟩)) hg hat)
             have n5_ := Aside0.mk (Kd.R_after (ok := (fun k_ => k_ ≠ gb331 ∧ k_ ≠ gb345)) (by (with_reducible repeat (first | apply Kd.R_alloc | apply Kd.R_drewN | apply Kd.R_drew)); exact Kd.R_mono HO367.out (fun _ hk => ⟨⟨hk.1.2, hk.2⟩, hk.1.1.2⟩)) hg hat)
             have n6_ := Aside0.mk (hb)
             have n7_ := Aside0.mk (ho)
             clear BK331 HO336 HO343 BK345 HO348 HO367 HB HO361
             have BK331 := n0_
             have HO336 := n1_
             have HO343 := n2_
             have BK345 := n3_
             have HO348 := n4_
             have HO367 := n5_
             have HB := n6_
             have HO364 := n7_
             clear n0_ n1_ n2_ n3_ n4_ n5_ n6_ n7_ ho hb hg hat
             refine hK.out _ _ ⟨(blk_cell BK331.out 0).trans rfl, (blk_cell BK331.out 1).trans rfl, (blk_cell BK331.out 2).trans rfl⟩ (fun hHeld => ?_)
             clear hK K
             refine norm_ (a' := ?_) ?_ ?_
             rotate_left
             ·
              show Act.put _ (some 132) _ = _
              simp only [Act.put, List.setIfInBounds_toArray, List.set_cons_zero, List.set_cons_succ, i64_w, i32_w]
              rfl
             exact norm_ (by simp only [putAll, Act.put, List.setIfInBounds_toArray, List.set_cons_zero, List.set_cons_succ]) (hCont (v360, v363, v366) _ ⟨hHeld, (by (with_reducible repeat (first | apply Kd.V_alloc | apply Kd.V_drewN | apply Kd.V_drew)); exact Kd.V_mono HO336.out (fun _ hk => ⟨hk.2, ⟨hk.1.1, ⟨hk.1.2.1, hk.1.2.2⟩⟩⟩)), (by (with_reducible repeat (first | apply Kd.V_alloc | apply Kd.V_drewN | apply Kd.V_drew)); exact Kd.V_mono HO343.out (fun _ hk => ⟨hk.2, ⟨hk.1.1, ⟨hk.1.2.1, hk.1.2.2⟩⟩⟩)), (by (with_reducible repeat (first | apply Kd.V_alloc | apply Kd.V_drewN | apply Kd.V_drew)); exact Kd.V_mono HO348.out (fun _ hk => ⟨hk.2, ⟨hk.1.1, ⟨hk.1.2.1, hk.1.2.2⟩⟩⟩)), (by (with_reducible repeat (first | apply Kd.R_alloc | apply Kd.R_drewN | apply Kd.R_drew)); exact HO364.out), (by (with_reducible repeat (first | apply Kd.R_alloc | apply Kd.R_drewN | apply Kd.R_drew)); exact Kd.R_mono HO367.out (fun _ hk => ⟨hk.2, ⟨hk.1.1, hk.1.2⟩⟩)), (bT BK331.out), (bT BK345.out), (bW HB.out)⟩)
           ·
            skip
            refine Kd.R_lit_step k25 _ 25 ?hg (N := 134) ?hd (xs := ([(⟨a1_0, a1_1, a1_2⟩ : S25)] : List (S25))) (inner := [.string a1_0, .int .u64 a1_1, .int .u64 a1_2]) (ok := fun _ => True) (okp := fun _ => True) ?hr ?hp (fun _ hk => hk) trivial (Below.refl _ _) (Nat.le_refl _) (by simp) ?_; (case hd => rfl); (case hg => rfl); (case hr => first | (go_simp; done) | (go_simp; rfl)); (case hp => exact (Reps.c3 (show Kd.M k25 _ _ _ (⟨a1_0, a1_1, a1_2⟩ : S25) [.string a1_0, .int .u64 a1_1, .int .u64 a1_2] from (k25_mkM _ _ _ (⟨a1_0, a1_1, a1_2⟩ : S25) )) (Reps.none _ _)))
            intro v366 w44 ho45 hb hg_ hnew_
            clear hg_ hnew_
            (first | rw [← Ny365.out] at ho45 | (simp only [Int.reduceToNat] at ho45; rw [← Ny365.out] at ho45))
            have n0_ := Aside0.mk (Kd.V_elder' (by (with_reducible repeat (first | apply Kd.V_alloc | apply Kd.V_drewN | apply Kd.V_drew)); exact HO336.out) (Kd.R_base ho45) hb)
            have n1_ := Aside0.mk (Kd.V_elder' (by (with_reducible repeat (first | apply Kd.V_alloc | apply Kd.V_drewN | apply Kd.V_drew)); exact HO343.out) (Kd.R_base ho45) hb)
            have n2_ := Aside0.mk (Kd.V_elder' (by (with_reducible repeat (first | apply Kd.V_alloc | apply Kd.V_drewN | apply Kd.V_drew)); exact HO348.out) (Kd.R_base ho45) hb)
            have n3_ := Aside0.mk (Kd.R_lower (Kd.R_newB (Kd.R_newB ho45 (bT BK331.out)) (bT BK345.out)) (below_size (bW HB.out)))
            have n4_ := Aside0.mk (blk_below (bT BK331.out) hb)
            have n5_ := Aside0.mk (blk_below (bT BK345.out) hb)
            have n6_ := Aside0.mk (below_step (bW HB.out) hb)
            clear HO336 HO343 HO348 BK331 BK345 HB
            have HO336 := n0_
            have HO343 := n1_
            have HO348 := n2_
            have HO367 := n3_
            have BK331 := n4_
            have BK345 := n5_
            have HB := n6_
            clear n0_ n1_ n2_ n3_ n4_ n5_ n6_ hb ho45
            refine hK.out _ _ ⟨(blk_cell BK331.out 0).trans rfl, (blk_cell BK331.out 1).trans rfl, (blk_cell BK331.out 2).trans rfl⟩ (fun hHeld => ?_)
            clear hK K
            refine norm_ (a' := ?_) ?_ ?_
            rotate_left
            ·
             show Act.put _ (some 134) _ = _
             simp only [Act.put, List.setIfInBounds_toArray, List.set_cons_zero, List.set_cons_succ, i64_w, i32_w]
             rfl
            refine one_ (i := 18) (N := some 130) #[true, true, true, true, true, true, true, true, true, true, true, true, true, true, true, true, true, true, true, true, false, true, true, false, true, true, false, false, false, false, false] rfl rfl (one_of HT_.out (by kernel_rfl)) (by decide) (fun K hK => ?_)
            refine Kd.R_lit_step k25 _ 25 ?hg (N := 130) ?hd (xs := ([] : List (S25))) (inner := []) (ok := fun _ => True) (okp := fun _ => True) ?hr ?hp (fun _ hk => hk) trivial (Below.refl _ _) (Nat.le_refl _) (by simp) ?_; (case hd => rfl); (case hg => rfl); (case hr => first | (go_simp; done) | (go_simp; rfl)); (case hp => exact (Reps.none _ _))
            intro v360 w46 ho47 hb hg_ hnew_
            clear hg_ hnew_
            (first | rw [← Ny359.out] at ho47 | (simp only [Int.reduceToNat] at ho47; rw [← Ny359.out] at ho47))
            have n0_ := Aside0.mk (Kd.V_elder' (by (with_reducible repeat (first | apply Kd.V_alloc | apply Kd.V_drewN | apply Kd.V_drew)); exact HO336.out) (Kd.R_base ho47) hb)
            have n1_ := Aside0.mk (Kd.V_elder' (by (with_reducible repeat (first | apply Kd.V_alloc | apply Kd.V_drewN | apply Kd.V_drew)); exact HO343.out) (Kd.R_base ho47) hb)
            have n2_ := Aside0.mk (Kd.V_elder' (by (with_reducible repeat (first | apply Kd.V_alloc | apply Kd.V_drewN | apply Kd.V_drew)); exact HO348.out) (Kd.R_base ho47) hb)
            have n3_ := Aside0.mk (Kd.R_elder' (by (with_reducible repeat (first | apply Kd.R_alloc | apply Kd.R_drewN | apply Kd.R_drew)); exact HO367.out) (Kd.R_base ho47) hb)
            have n4_ := Aside0.mk (Kd.R_lower (Kd.R_newB (Kd.R_newB (Kd.R_new' ho47 (Kd.R_lt (by (with_reducible repeat (first | apply Kd.R_alloc | apply Kd.R_drewN | apply Kd.R_drew)); exact HO367.out))) (bT BK331.out)) (bT BK345.out)) (below_size (bW HB.out)))
            have n5_ := Aside0.mk (blk_below (bT BK331.out) hb)
            have n6_ := Aside0.mk (blk_below (bT BK345.out) hb)
            have n7_ := Aside0.mk (below_step (bW HB.out) hb)
            clear HO336 HO343 HO348 HO367 BK331 BK345 HB
            have HO336 := n0_
            have HO343 := n1_
            have HO348 := n2_
            have HO367 := n3_
            have HO361 := n4_
            have BK331 := n5_
            have BK345 := n6_
            have HB := n7_
            clear n0_ n1_ n2_ n3_ n4_ n5_ n6_ n7_ hb ho47
            refine hK.out _ _ ⟨(blk_cell BK331.out 0).trans rfl, (blk_cell BK331.out 1).trans rfl, (blk_cell BK331.out 2).trans rfl⟩ (fun hHeld => ?_)
            clear hK K
            refine norm_ (a' := ?_) ?_ ?_
            rotate_left
            ·
             show Act.put _ (some 130) _ = _
             simp only [Act.put, List.setIfInBounds_toArray, List.set_cons_zero, List.set_cons_succ, i64_w, i32_w]
             rfl
            refine one_ (i := 20) (N := some 132) #[true, true, true, true, true, true, true, true, true, true, true, true, true, true, true, true, true, true, true, true, true, true, true, false, true, true, false, false, false, false, false] rfl rfl (one_of HT_.out (by kernel_rfl)) (by decide) (fun K hK => ?_)
            refine Kd.R_append_rows_step k25 (w0 := w) w.heap.size (by rfl) (.tmp 130) (.tmp 131) 22 25 (.agg #[(.string ⟨#[]⟩), (.int .u64 0), (.int .u64 0)]) 32 rfl Try.underlying22 info25 rfl (by decide) (by omega) v360 y359 l0 _ _ _ (fun k_ => some k_ ≠ (v366 : Value).ownBlock ∧ k_ ≠ gb331 ∧ k_ ≠ gb345) (fun _ => False) rfl rfl ?aO ?aR (fun _ _ h => h) (fun _ h => h.elim) ?aF ?aB ?aS ?aL ?_
            (case aR => repeat (first | exact (Kd.C_below HR0.out HB.out) | (with_reducible refine Kd.C_alloc ?_ _) | (with_reducible refine Kd.C_drewN ?_ _) | (with_reducible refine Kd.C_drew ?_)))
            (case aB => exact (bW HB.out))
            (case aF => exact (fun k_ hk => ⟨Kd.fresh' (Kd.R_lt (by (with_reducible repeat (first | apply Kd.R_alloc | apply Kd.R_drewN | apply Kd.R_drew)); exact HO367.out)) k_ hk, Kd.freshB (bT BK331.out) k_ hk, Kd.freshB (bT BK345.out) k_ hk⟩))
            (case aO => exact (by (with_reducible repeat (first | apply Kd.R_alloc | apply Kd.R_drewN | apply Kd.R_drew)); exact Kd.R_mono HO361.out (fun _ hk => ⟨hk.1.1.2, ⟨hk.1.2, hk.2⟩⟩)))
            (case aS => exact (below_size (bW HB.out)))
            (case aL => have := LMc38.out; omega)
            intro v363 w48 ho hb hg hat
            rw [← Ny362.out] at ho
            have n0_ := Aside0.mk (blk_grown (bT BK331.out) hg (Kd.R_away HO361.out (fun _ hk => hk.1.2)))
            have n1_ := Aside0.mk (Kd.V_afterv (ok := (fun k_ => some k_ ≠ (v366 : Value).ownBlock ∧ k_ ≠ gb331 ∧ k_ ≠ gb345)) (by (with_reducible repeat (first | apply Kd.V_alloc | apply Kd.V_drewN | apply Kd.V_drew)); exact Kd.V_mono HO336.out (fun _ hk => ⟨⟨hk.1.2, ⟨hk.1.1.1, hk.1.1.2⟩⟩, hk.2⟩)) hg hat)
            have n2_ := Aside0.mk (Kd.V_afterv (ok := (fun k_ => some k_ ≠ (v366 : Value).ownBlock ∧ k_ ≠ gb331 ∧ k_ ≠ gb345)) (by (with_reducible repeat (first | apply Kd.V_alloc | apply Kd.V_drewN | apply Kd.V_drew)); exact Kd.V_mono HO343.out (fun _ hk => ⟨⟨hk.1.2, ⟨hk.1.1.1, hk.1.1.2⟩⟩, hk.2⟩)) hg hat)
            have n3_ := Aside0.mk (blk_grown (bT BK345.out) hg (Kd.R_away HO361.out (fun _ hk => hk.2)))
            have n4_ := Aside0.mk (Kd.V_afterv (ok := (fun k_ => some k_ ≠ (v366 : Value).ownBlock ∧ k_ ≠ gb331 ∧ k_ ≠ gb345)) (by (with_reducible repeat (first | apply Kd.V_alloc | apply Kd.V_drewN | apply Kd.V_drew)); exact Kd.V_mono HO348.out (fun _ hk => ⟨⟨hk.1.2, ⟨hk.1.1.1, hk.1.1.2⟩⟩, hk.2⟩)) hg hat)
            have n5_ := Aside0.mk (Kd.R_after (ok := (fun k_ => k_ ≠ gb331 ∧ k_ ≠ gb345)) (by (with_reducible repeat (first | apply Kd.R_alloc | apply Kd.R_drewN | apply Kd.R_drew)); exact Kd.R_mono HO367.out (fun _ hk => ⟨⟨hk.1.1.2, hk.1.2⟩, hk.2⟩)) hg hat)
            have n6_ := Aside0.mk (hb)
            have n7_ := Aside0.mk (ho)
            clear BK331 HO336 HO343 BK345 HO348 HO367 HB HO361
            have BK331 := n0_
            have HO336 := n1_
            have HO343 := n2_
            have BK345 := n3_
            have HO348 := n4_
            have HO367 := n5_
            have HB := n6_
            have HO364 := n7_
            clear n0_ n1_ n2_ n3_ n4_ n5_ n6_ n7_ ho hb hg hat
            refine hK.out _ _ ⟨(blk_cell BK331.out 0).trans rfl, (blk_cell BK331.out 1).trans rfl, (blk_cell BK331.out 2).trans rfl⟩ (fun hHeld => ?_)
            clear hK K
            refine norm_ (a' := ?_) ?_ ?_
            rotate_left
            ·
             show Act.put _ (some 132) _ = _
             simp only [Act.put, List.setIfInBounds_toArray, List.set_cons_zero, List.set_cons_succ, i64_w, i32_w]
             rfl
            exact norm_ (by simp only [putAll, Act.put, List.setIfInBounds_toArray, List.set_cons_zero, List.set_cons_succ]) (hCont (v360, v363, v366) _ ⟨hHeld, (by (with_reducible repeat (first | apply Kd.V_alloc | apply Kd.V_drewN | apply Kd.V_drew)); exact Kd.V_mono HO336.out (fun _ hk => ⟨hk.2, ⟨hk.1.1, ⟨hk.1.2.1, hk.1.2.2⟩⟩⟩)), (by (with_reducible repeat (first | apply Kd.V_alloc | apply Kd.V_drewN | apply Kd.V_drew)); exact Kd.V_mono HO343.out (fun _ hk => ⟨hk.2, ⟨hk.1.1, ⟨hk.1.2.1, hk.1.2.2⟩⟩⟩)), (by (with_reducible repeat (first | apply Kd.V_alloc | apply Kd.V_drewN | apply Kd.V_drew)); exact Kd.V_mono HO348.out (fun _ hk => ⟨hk.2, ⟨hk.1.1, ⟨hk.1.2.1, hk.1.2.2⟩⟩⟩)), (by (with_reducible repeat (first | apply Kd.R_alloc | apply Kd.R_drewN | apply Kd.R_drew)); exact HO364.out), (by (with_reducible repeat (first | apply Kd.R_alloc | apply Kd.R_drewN | apply Kd.R_drew)); exact Kd.R_mono HO367.out (fun _ hk => ⟨hk.2, ⟨hk.1.1, hk.1.2⟩⟩)), (bT BK331.out), (bT BK345.out), (bW HB.out)⟩)
          rintro ⟨v360, v363, v366⟩ w49 ⟨hS_, h0_, h1_, h2_, h3_, h4_, h5_, h6_, h7_⟩
          have n0_ : Aside0 (Kd.V k25 25 w49 w.heap.size (fun k_ => some k_ ≠ (v363 : Value).ownBlock ∧ some k_ ≠ (v366 : Value).ownBlock ∧ k_ ≠ gb331 ∧ k_ ≠ gb345) (.slice Ao42 t334.length co42) t334) := ⟨h0_⟩
          have n1_ : Aside0 (Kd.V k25 25 w49 w.heap.size (fun k_ => some k_ ≠ (v363 : Value).ownBlock ∧ some k_ ≠ (v366 : Value).ownBlock ∧ k_ ≠ gb331 ∧ k_ ≠ gb345) v342 t341) := ⟨h1_⟩
          have n2_ : Aside0 (Kd.V k25 25 w49 w.heap.size (fun k_ => some k_ ≠ (v363 : Value).ownBlock ∧ some k_ ≠ (v366 : Value).ownBlock ∧ k_ ≠ gb331 ∧ k_ ≠ gb345) v347 t346) := ⟨h2_⟩
          have n3_ : Aside0 (Kd.R k25 25 w49 w.heap.size (fun k_ => some k_ ≠ (v366 : Value).ownBlock ∧ k_ ≠ gb331 ∧ k_ ≠ gb345) v363 y362) := ⟨h3_⟩
          have n4_ : Aside0 (Kd.R k25 25 w49 w.heap.size (fun k_ => some k_ ≠ (v363 : Value).ownBlock ∧ k_ ≠ gb331 ∧ k_ ≠ gb345) v366 y365) := ⟨h4_⟩
          have n5_ : Aside0 (w49.heap[gb331]? = some (.cells #[.string a1_0, .int .u64 a1_1, .int .u64 a1_2] 25 (0, 0))) := ⟨h5_⟩
          have n6_ : Aside0 (w49.heap[gb345]? = some (.cells #[.string t338, .int .u64 t339, .int .u64 t340] 25 (0, 0))) := ⟨h6_⟩
          have n7_ : Aside0 (Below w.heap.size w w49) := ⟨h7_⟩
          clear HO336 HO343 HO348 BK331 BK345 HB h0_ h1_ h2_ h3_ h4_ h5_ h6_ h7_
          have HO336 := n0_
          have HO343 := n1_
          have HO348 := n2_
          have HO364 := n3_
          have HO367 := n4_
          have BK331 := n5_
          have BK345 := n6_
          have HB := n7_
          clear n0_ n1_ n2_ n3_ n4_ n5_ n6_ n7_
          have hHeld : w49.cell? ⟨gb331, 0, none⟩ = some (.string a1_0) ∧ w49.cell? ⟨gb331, 1, none⟩ = some (.int .u64 a1_1) ∧ w49.cell? ⟨gb331, 2, none⟩ = some (.int .u64 a1_2) := hS_
          obtain ⟨Ao51, co51, eo51⟩ := Kd.R_slice HO367.out
          (first | subst eo51 | (injection eo51 with f1_ f2_ f3_; have f4_ := f1_.symm; have f5_ := f3_.symm; clear f1_ f2_ f3_; subst f4_; subst f5_))
          refine norm_ (a' := ?_) ?_ ?_
          rotate_left
          ·
           simp only [putAll, Act.put, List.setIfInBounds_toArray, List.set_cons_zero, List.set_cons_succ]
           rfl
          refine one_ (i := 23) (N := some 135) #[true, true, true, true, true, true, true, true, true, true, true, true, true, true, true, true, true, true, true, true, true, true, true, true, true, true, false, false, false, false, false] rfl rfl (one_of HT_.out (by kernel_rfl)) (by decide) (fun K hK => ?_)
          refine Kd.R_append_rows_step k25 (w0 := w) w.heap.size (by rfl) (.tmp 132) (.tmp 134) 22 25 (.agg #[(.string ⟨#[]⟩), (.int .u64 0), (.int .u64 0)]) 32 rfl Try.underlying22 info25 rfl (by decide) (by omega) v363 y362 y365 _ _ _ (fun k_ => some k_ ≠ (.slice Ao51 y365.length co51 : Value).ownBlock ∧ k_ ≠ gb331 ∧ k_ ≠ gb345) (fun _ => False) rfl rfl ?aO ?aR (fun _ _ h => h) (fun _ h => h.elim) ?aF ?aB ?aS ?aL ?_
          (case aR => repeat (first | exact (Kd.R_reads' HO367.out).2.2 | (with_reducible refine Kd.C_alloc ?_ _) | (with_reducible refine Kd.C_drewN ?_ _) | (with_reducible refine Kd.C_drew ?_)))
          (case aB => exact (bW HB.out))
          (case aF => exact (fun k_ hk => ⟨Kd.fresh' (Kd.R_lt (by (with_reducible repeat (first | apply Kd.R_alloc | apply Kd.R_drewN | apply Kd.R_drew)); exact HO367.out)) k_ hk, Kd.freshB (bT BK331.out) k_ hk, Kd.freshB (bT BK345.out) k_ hk⟩))
          (case aO => exact (by (with_reducible repeat (first | apply Kd.R_alloc | apply Kd.R_drewN | apply Kd.R_drew)); exact HO364.out))
          (case aS => exact (below_size (bW HB.out)))
          (case aL => have := LMc39.out; omega)
          intro v369 w50 ho hb hg hat
          rw [← Ny368.out] at ho
          have n0_ := Aside0.mk (blk_grown (bT BK331.out) hg (Kd.R_away HO364.out (fun _ hk => hk.2.1)))
          have n1_ := Aside0.mk (Kd.V_afterv (ok := (fun k_ => some k_ ≠ (.slice Ao51 y365.length co51 : Value).ownBlock ∧ k_ ≠ gb331 ∧ k_ ≠ gb345)) (by (with_reducible repeat (first | apply Kd.V_alloc | apply Kd.V_drewN | apply Kd.V_drew)); exact Kd.V_mono HO336.out (fun _ hk => ⟨⟨hk.2.1, ⟨hk.2.2.1, hk.2.2.2⟩⟩, hk.1⟩)) hg hat)
          have n2_ := Aside0.mk (Kd.V_afterv (ok := (fun k_ => some k_ ≠ (.slice Ao51 y365.length co51 : Value).ownBlock ∧ k_ ≠ gb331 ∧ k_ ≠ gb345)) (by (with_reducible repeat (first | apply Kd.V_alloc | apply Kd.V_drewN | apply Kd.V_drew)); exact Kd.V_mono HO343.out (fun _ hk => ⟨⟨hk.2.1, ⟨hk.2.2.1, hk.2.2.2⟩⟩, hk.1⟩)) hg hat)
          have n3_ := Aside0.mk (blk_grown (bT BK345.out) hg (Kd.R_away HO364.out (fun _ hk => hk.2.2)))
          have n4_ := Aside0.mk (Kd.V_afterv (ok := (fun k_ => some k_ ≠ (.slice Ao51 y365.length co51 : Value).ownBlock ∧ k_ ≠ gb331 ∧ k_ ≠ gb345)) (by (with_reducible repeat (first | apply Kd.V_alloc | apply Kd.V_drewN | apply Kd.V_drew)); exact Kd.V_mono HO348.out (fun _ hk => ⟨⟨hk.2.1, ⟨hk.2.2.1, hk.2.2.2⟩⟩, hk.1⟩)) hg hat)
          have n5_ := Aside0.mk (Kd.R_after (ok := (fun k_ => k_ ≠ gb331 ∧ k_ ≠ gb345)) (by (with_reducible repeat (first | apply Kd.R_alloc | apply Kd.R_drewN | apply Kd.R_drew)); exact Kd.R_mono HO367.out (fun _ hk => ⟨⟨hk.2.1, hk.2.2⟩, hk.1⟩)) hg hat)
          have n6_ := Aside0.mk (hb)
          have n7_ := Aside0.mk (ho)
          clear BK331 HO336 HO343 BK345 HO348 HO367 HB HO364
          have BK331 := n0_
          have HO336 := n1_
          have HO343 := n2_
          have BK345 := n3_
          have HO348 := n4_
          have HO367 := n5_
          have HB := n6_
          have HO370 := n7_
          clear n0_ n1_ n2_ n3_ n4_ n5_ n6_ n7_ ho hb hg hat
          obtain ⟨Ao52, co52, eo52⟩ := Kd.R_slice HO370.out
          (first | subst eo52 | (injection eo52 with f1_ f2_ f3_; have f4_ := f1_.symm; have f5_ := f3_.symm; clear f1_ f2_ f3_; subst f4_; subst f5_))
          refine hK.out _ _ ⟨(blk_cell BK331.out 0).trans rfl, (blk_cell BK331.out 1).trans rfl, (blk_cell BK331.out 2).trans rfl⟩ (fun hHeld => ?_)
          clear hK K
          refine norm_ (a' := ?_) ?_ ?_
          rotate_left
          ·
           show Act.put _ (some 135) _ = _
           simp only [Act.put, List.setIfInBounds_toArray, List.set_cons_zero, List.set_cons_succ, i64_w, i32_w]
           rfl
          refine one_ (i := 26) (N := some 138) #[true, true, true, true, true, true, true, true, true, true, true, true, true, true, true, true, true, true, true, true, true, true, true, true, true, true, true, false, false, false, false] rfl rfl (one_of HT_.out (by kernel_rfl)) (by decide) (fun K hK => ?_)
          refine goes_ Try.func18 (by kernel_rfl) rfl #[.slice Ao52 y368.length co52, .int .i64 (l0.length : Int)] (by rfl) rfl rfl (by (try simp only [List.map_toArray, List.map_cons, List.map_nil]); first | done | rfl | (simp only [List.length_drop, List.length_take]; rfl)) ?_
          with_reducible refine (samphireref11_Lift.calls kj4 (fun k_ => some k_ = (.slice Ao52 y368.length co52 : Value).ownBlock) _ _ y368 (l0.length : Int) t371 _ ?side1 A40.out).mono ?_
          (case side1 => exact Kd.R_V (Kd.R_tight rfl (HO370.out)))
          rintro e w53 ⟨v372, rfl, ho0, hb⟩
          refine ⟨_, rfl, ?_⟩
          have n0_ := Aside0.mk (Kd.V_below (by (with_reducible repeat (first | apply Kd.V_alloc | apply Kd.V_drewN | apply Kd.V_drew)); exact HO336.out) hb)
          have n1_ := Aside0.mk (Kd.V_below (by (with_reducible repeat (first | apply Kd.V_alloc | apply Kd.V_drewN | apply Kd.V_drew)); exact HO343.out) hb)
          have n2_ := Aside0.mk (Kd.V_below (by (with_reducible repeat (first | apply Kd.V_alloc | apply Kd.V_drewN | apply Kd.V_drew)); exact HO348.out) hb)
          have n3_ := Aside0.mk (Kd.R_below (by (with_reducible repeat (first | apply Kd.R_alloc | apply Kd.R_drewN | apply Kd.R_drew)); exact HO367.out) hb)
          have n4_ := Aside0.mk (Kd.R_below (by (with_reducible repeat (first | apply Kd.R_alloc | apply Kd.R_drewN | apply Kd.R_drew)); exact HO370.out) hb)
          have n5_ := Aside0.mk (Kd.V_lower (Kd.V_mono (ok' := fun k_ => some k_ ≠ (.slice Ao51 y365.length co51 : Value).ownBlock ∧ k_ ≠ gb331 ∧ k_ ≠ gb345) ho0 (fun k_ hk_ => ⟨Or.elim hk_ (fun hs_ => ((HO370.out).1 k_ hs_.symm).1) (fun hn_ => (Kd.fresh' (Kd.R_lt (by (with_reducible repeat (first | apply Kd.R_alloc | apply Kd.R_drewN | apply Kd.R_drew)); exact HO367.out)) k_ hn_)), Or.elim hk_ (fun hs_ => ((HO370.out).1 k_ hs_.symm).2.1) (fun hn_ => (Kd.freshB (bT BK331.out) k_ hn_)), Or.elim hk_ (fun hs_ => ((HO370.out).1 k_ hs_.symm).2.2) (fun hn_ => (Kd.freshB (bT BK345.out) k_ hn_))⟩)) (below_size (bW HB.out)))
          have n6_ := Aside0.mk (blk_below (bT BK331.out) hb)
          have n7_ := Aside0.mk (blk_below (bT BK345.out) hb)
          have n8_ := Aside0.mk (below_step (bW HB.out) hb)
          clear HO336 HO343 HO348 HO367 HO370 BK331 BK345 HB
          have HO336 := n0_
          have HO343 := n1_
          have HO348 := n2_
          have HO367 := n3_
          have HO370 := n4_
          have HO373 := n5_
          have BK331 := n6_
          have BK345 := n7_
          have HB := n8_
          clear n0_ n1_ n2_ n3_ n4_ n5_ n6_ n7_ n8_
          (try clear hb)
          (try clear hb2)
          (try clear hk)
          (try clear hi)
          (try clear ho0)
          obtain ⟨Ao54, co54, eo54⟩ := Kd.V_slice HO373.out
          (first | subst eo54 | (injection eo54 with f1_ f2_ f3_; have f4_ := f1_.symm; have f5_ := f3_.symm; clear f1_ f2_ f3_; subst f4_; subst f5_))
          refine hK.out _ _ ⟨(blk_cell BK331.out 0).trans rfl, (blk_cell BK331.out 1).trans rfl, (blk_cell BK331.out 2).trans rfl⟩ (fun hHeld => ?_)
          clear hK K
          refine norm_ (a' := ?_) ?_ ?_
          rotate_left
          ·
           show Act.put _ (some 138) _ = _
           simp only [Act.put, List.setIfInBounds_toArray, List.set_cons_zero, List.set_cons_succ, i64_w, i32_w]
           rfl
          refine one_ (i := 27) (N := some 139) #[true, true, true, true, true, true, true, true, true, true, true, true, true, true, true, true, true, true, true, true, true, true, true, true, true, true, true, true, false, false, false] rfl rfl (one_of HT_.out (by kernel_rfl)) (by decide) (fun K hK => ?_)
          refine goes_ Try.func16 (by kernel_rfl) rfl #[.slice Ao42 t334.length co42, .slice Ao54 t371.length co54] (by rfl) rfl rfl (by (try simp only [List.map_toArray, List.map_cons, List.map_nil]); first | done | rfl | (simp only [List.length_drop, List.length_take]; rfl)) ?_
          with_reducible refine (samphireref10_Same.calls kj4 _ _ t334 _ _ t371 t374 _ ?side1 ?side2 ?side3 ?side4 A41.out).mono ?_
          (case side1 => repeat (first | exact (Kd.V_reads' HO336.out).2.2 | (with_reducible refine Kd.C_alloc ?_ _) | (with_reducible refine Kd.C_drewN ?_ _) | (with_reducible refine Kd.C_drew ?_)))
          (case side2 => exact (Kd.V_reads' HO336.out).2.1)
          (case side3 => repeat (first | exact (Kd.V_reads' HO373.out).2.2 | (with_reducible refine Kd.C_alloc ?_ _) | (with_reducible refine Kd.C_drewN ?_ _) | (with_reducible refine Kd.C_drew ?_)))
          (case side4 => exact (Kd.V_reads' HO373.out).2.1)
          rintro e w' ⟨rfl, ⟨nd, rfl⟩⟩
          refine ⟨_, rfl, ?_⟩
          refine hK.out _ _ ⟨(blk_cell BK331.out 0).trans rfl, (blk_cell BK331.out 1).trans rfl, (blk_cell BK331.out 2).trans rfl⟩ (fun hHeld => ?_)
          clear hK K
          refine norm_ (a' := ?_) ?_ ?_
          rotate_left
          ·
           show Act.put _ (some 139) _ = _
           simp only [Act.put, List.setIfInBounds_toArray, List.set_cons_zero, List.set_cons_succ, i64_w, i32_w]
           rfl
          refine pure_ (i := 28) (N := some 140) (v := ?_) (a' := ?_) #[true, true, true, true, true, true, true, true, true, true, true, true, true, true, true, true, true, true, true, true, true, true, true, true, true, true, true, true, true, false, false] rfl rfl (any_of HT_.out (by kernel_rfl)) (fun _ _ _ h => h) (Or.inl ⟨by rfl, ?_⟩) ?_ ?_
          rotate_left
          ·
           intro w'
           go_simp
           with_reducible rfl
          rotate_left
          · exact bA
          refine pure_ (i := 29) (N := some 141) (v := ?_) (a' := ?_) #[true, true, true, true, true, true, true, true, true, true, true, true, true, true, true, true, true, true, true, true, true, true, true, true, true, true, true, true, true, true, false] rfl rfl (any_of HT_.out (by kernel_rfl)) (fun _ _ _ h => h) (Or.inl ⟨by rfl, ?_⟩) ?_ ?_
          rotate_left
          ·
           intro w'
           go_simp
           with_reducible rfl
          rotate_left
          · exact bA
          refine pure_ (i := 30) (N := some 142) (v := ?_) (a' := ?_) #[true, true, true, true, true, true, true, true, true, true, true, true, true, true, true, true, true, true, true, true, true, true, true, true, true, true, true, true, true, true, true] rfl rfl (any_of HT_.out (by kernel_rfl)) (fun _ _ _ h => h) (Or.inl ⟨by rfl, ?_⟩) ?_ ?_
          rotate_left
          ·
           intro w'
           go_simp
           with_reducible rfl
          rotate_left
          · exact bA
          refine done_ (done_of HT_.out (by kernel_rfl)) ?_
          try go_wp2
          go_meet
          case rel => exact ⟨_, (!t374), (by first | rfl | (simp; done) | (simp [*]; done)), H', ⟨by have := HJ4.out; first | omega | exact Nat.le_refl _⟩, ⟨by (with_reducible repeat (first | apply Kd.V_alloc | apply Kd.V_drewN | apply Kd.V_drew)); exact Kd.V_mono HO343.out (fun _ hk => ⟨hk.1.2.1, hk.1.2.2⟩)⟩, ⟨by (with_reducible repeat (first | apply Kd.V_alloc | apply Kd.V_drewN | apply Kd.V_drew)); exact Kd.V_mono HO348.out (fun _ hk => ⟨hk.1.2.1, hk.1.2.2⟩)⟩, ⟨by (with_reducible repeat (first | refine blk_drewN ?_ _ | refine blk_drew ?_ | refine blk_alloc ?_ _)); exact BK331.out⟩, ⟨by (with_reducible repeat (first | refine blk_drewN ?_ _ | refine blk_drew ?_ | refine blk_alloc ?_ _)); exact BK345.out⟩, ⟨by repeat (first | (with_reducible first | exact HB.out | apply below_alloc | apply pw_below_drewN | apply below_drew1 | refine below_set ?_ GE331.out | refine below_set ?_ GE345.out) | exact HB.out)⟩⟩
         ·
          rw [if_neg c39] at H
          exact absurd H (by simp)
        ·
         rw [if_neg c38] at H
         exact absurd H (by simp)
       ·
        rw [if_neg c37] at H
        have c37b0 : (t358 == 0) = false := beq_eq_false_iff_ne.mpr c37
        have c37b1 : (t358 != 0) = true := bne_iff_ne.mpr c37
        replace H := Option.bind_eq_some_iff.mp H
        obtain ⟨t375, A550, H⟩ := H
        replace H : (if t375 = true then (samphirelaw11_HeapTells.j1 kj4 l0 a2 a3 t341 t344 t346 t349 t350 t351 t358 false a1_0 a1_1 a1_2 t338 t339 t340) else (none)) = some r := H
        have A55 := Aside0.mk A550
        clear A550
        by_cases c56 : t375 = true
        ·
         subst c56
         have H1 : (samphirelaw11_HeapTells.j1 kj4 l0 a2 a3 t341 t344 t346 t349 t350 t351 t358 false a1_0 a1_1 a1_2 t338 t339 t340) = some r := by rw [if_pos rfl] at H; exact H
         clear H
         have H := H1
         clear H1
         have H' := Aside0.mk H
         clear H
         try go_wp2
         have n0_ := Aside0.mk (Kd.V_drew HO336.out)
         have n1_ := Aside0.mk (Kd.V_drew HO343.out)
         have n2_ := Aside0.mk (Kd.V_drew HO348.out)
         have n3_ := Aside0.mk (blk_drew BK331.out)
         have n4_ := Aside0.mk (blk_drew BK345.out)
         have n5_ := Aside0.mk (below_drew1 HB.out)
         clear HO336 HO343 HO348 BK331 BK345 HB
         have HO336 := n0_
         have HO343 := n1_
         have HO348 := n2_
         have BK331 := n3_
         have BK345 := n4_
         have HB := n5_
         clear n0_ n1_ n2_ n3_ n4_ n5_
         obtain ⟨Ao58, co58, eo58⟩ := Kd.V_slice HO336.out
         (first | subst eo58 | (injection eo58 with f1_ f2_ f3_; have f4_ := f1_.symm; have f5_ := f3_.symm; clear f1_ f2_ f3_; subst f4_; subst f5_))
         refine start_ (n := 31) (S := fun w' => True) (ds := []) #[false, false, false, false, false, false, false, false, false, false, false, false, false, false, false, false, false, false, false, false, false, false, false, false, false, false, false, false, false, false, false] (by kernel_rfl) rfl rfl trivial (fun hHeld => ?_); refine with_tabW samphirelaw11_HeapTells.tab10 samphirelaw11_HeapTells.bits10 (fun HT_ HW_ => ?_)
         generalize w35.drew = w57 at HO336 HO343 HO348 BK331 BK345 HB hHeld ⊢
         refine pure_ (i := 0) (N := some 112) (v := ?_) (a' := ?_) #[true, false, false, false, false, false, false, false, false, false, false, false, false, false, false, false, false, false, false, false, false, false, false, false, false, false, false, false, false, false, false] rfl rfl (any_of HT_.out (by kernel_rfl)) (fun _ _ _ h => h) (Or.inl ⟨by rfl, ?_⟩) ?_ ?_
         rotate_left
         ·
          intro w'
          go_simp
          with_reducible rfl
         rotate_left
         · exact bA
         refine pure_ (i := 1) (N := some 113) (v := ?_) (a' := ?_) #[true, true, false, false, false, false, false, false, false, false, false, false, false, false, false, false, false, false, false, false, false, false, false, false, false, false, false, false, false, false, false] rfl rfl (any_of HT_.out (by kernel_rfl)) (fun _ _ _ h => h) (Or.inl ⟨by rfl, ?_⟩) ?_ ?_
         rotate_left
         ·
          intro w'
          go_simp
          with_reducible rfl
         rotate_left
         · exact bA
         refine pure_ (i := 2) (N := some 114) (v := ?_) (a' := ?_) #[true, true, true, false, false, false, false, false, false, false, false, false, false, false, false, false, false, false, false, false, false, false, false, false, false, false, false, false, false, false, false] rfl rfl (any_of HT_.out (by kernel_rfl)) (fun _ _ _ h => h) (Or.inl ⟨by rfl, ?_⟩) ?_ ?_
         rotate_left
         ·
          intro w'
          go_simp
          with_reducible rfl
         rotate_left
         · exact bA
         refine pure_ (i := 3) (N := some 115) (v := ?_) (a' := ?_) #[true, true, true, true, false, false, false, false, false, false, false, false, false, false, false, false, false, false, false, false, false, false, false, false, false, false, false, false, false, false, false] rfl rfl (any_of HT_.out (by kernel_rfl)) (fun _ _ _ h => h) (Or.inl ⟨by rfl, ?_⟩) ?_ ?_
         rotate_left
         ·
          intro w'
          go_simp
          with_reducible rfl
         rotate_left
         · exact bA
         refine pure_ (i := 4) (N := some 116) (v := ?_) (a' := ?_) #[true, true, true, true, true, false, false, false, false, false, false, false, false, false, false, false, false, false, false, false, false, false, false, false, false, false, false, false, false, false, false] rfl rfl (any_of HT_.out (by kernel_rfl)) (fun _ _ _ h => h) (Or.inl ⟨by rfl, ?_⟩) ?_ ?_
         rotate_left
         ·
          intro w'
          go_simp
          with_reducible rfl
         rotate_left
         · exact bA
         refine pure_ (i := 5) (N := some 117) (v := ?_) (a' := ?_) #[true, true, true, true, true, true, false, false, false, false, false, false, false, false, false, false, false, false, false, false, false, false, false, false, false, false, false, false, false, false, false] rfl rfl (any_of HT_.out (by kernel_rfl)) (fun _ _ _ h => h) (Or.inl ⟨by rfl, ?_⟩) ?_ ?_
         rotate_left
         ·
          intro w'
          go_simp
          with_reducible rfl
         rotate_left
         · exact bA
         refine pure_ (i := 6) (N := some 118) (v := ?_) (a' := ?_) #[true, true, true, true, true, true, true, false, false, false, false, false, false, false, false, false, false, false, false, false, false, false, false, false, false, false, false, false, false, false, false] rfl rfl (any_of HT_.out (by kernel_rfl)) (fun _ _ _ h => h) (Or.inl ⟨by rfl, ?_⟩) ?_ ?_
         rotate_left
         ·
          intro w'
          go_simp
          with_reducible rfl
         rotate_left
         · exact bA
         refine pure_ (i := 7) (N := some 119) (v := ?_) (a' := ?_) #[true, true, true, true, true, true, true, true, false, false, false, false, false, false, false, false, false, false, false, false, false, false, false, false, false, false, false, false, false, false, false] rfl rfl (any_of HT_.out (by kernel_rfl)) (fun _ _ _ h => h) (Or.inl ⟨by rfl, ?_⟩) ?_ ?_
         rotate_left
         ·
          intro w'
          go_simp
          with_reducible rfl
         rotate_left
         · exact bA
         refine pure_ (i := 8) (N := some 120) (v := ?_) (a' := ?_) #[true, true, true, true, true, true, true, true, true, false, false, false, false, false, false, false, false, false, false, false, false, false, false, false, false, false, false, false, false, false, false] rfl rfl (any_of HT_.out (by kernel_rfl)) (fun _ _ _ h => h) (Or.inl ⟨by rfl, ?_⟩) ?_ ?_
         rotate_left
         ·
          intro w'
          go_simp
          with_reducible rfl
         rotate_left
         · exact bA
         refine one_ (i := 9) (N := some 121) #[true, true, true, true, true, true, true, true, true, true, false, false, false, false, false, false, false, false, false, false, false, false, false, false, false, false, false, false, false, false, false] rfl rfl (one_of HT_.out (by kernel_rfl)) (by decide) (fun K hK => ?_)
         refine goes_ Try.func16 (by kernel_rfl) rfl #[.slice Ao58 t334.length co58, .slice A0 l0.length c0] (by rfl) rfl rfl (by (try simp only [List.map_toArray, List.map_cons, List.map_nil]); first | done | rfl | (simp only [List.length_drop, List.length_take]; rfl)) ?_
         with_reducible refine (samphireref10_Same.calls kj4 _ _ t334 _ _ l0 true _ ?side1 ?side2 ?side3 ?side4 A55.out).mono ?_
         (case side1 => repeat (first | exact (Kd.V_reads' HO336.out).2.2 | (with_reducible refine Kd.C_alloc ?_ _) | (with_reducible refine Kd.C_drewN ?_ _) | (with_reducible refine Kd.C_drew ?_)))
         (case side2 => exact (Kd.V_reads' HO336.out).2.1)
         (case side3 => repeat (first | exact (Kd.C_below HR0.out HB.out) | (with_reducible refine Kd.C_alloc ?_ _) | (with_reducible refine Kd.C_drewN ?_ _) | (with_reducible refine Kd.C_drew ?_)))
         (case side4 => exact HC0.out)
         rintro e w' ⟨rfl, ⟨nd, rfl⟩⟩
         refine ⟨_, rfl, ?_⟩
         refine hK.out _ _ trivial (fun hHeld => ?_)
         clear hK K
         refine norm_ (a' := ?_) ?_ ?_
         rotate_left
         ·
          show Act.put _ (some 121) _ = _
          simp only [Act.put, List.setIfInBounds_toArray, List.set_cons_zero, List.set_cons_succ, i64_w, i32_w]
          rfl
         refine pure_ (i := 10) (N := some 122) (v := ?_) (a' := ?_) #[true, true, true, true, true, true, true, true, true, true, true, false, false, false, false, false, false, false, false, false, false, false, false, false, false, false, false, false, false, false, false] rfl rfl (any_of HT_.out (by kernel_rfl)) (fun _ _ _ h => h) (Or.inl ⟨by rfl, ?_⟩) ?_ ?_
         rotate_left
         ·
          intro w'
          go_simp
          with_reducible rfl
         rotate_left
         · exact bA
         refine pure_ (i := 11) (N := some 123) (v := ?_) (a' := ?_) #[true, true, true, true, true, true, true, true, true, true, true, true, false, false, false, false, false, false, false, false, false, false, false, false, false, false, false, false, false, false, false] rfl rfl (any_of HT_.out (by kernel_rfl)) (fun _ _ _ h => h) (Or.inl ⟨by rfl, ?_⟩) ?_ ?_
         rotate_left
         ·
          intro w'
          go_simp
          with_reducible rfl
         rotate_left
         · exact bA
         refine pure_ (i := 12) (N := some 124) (v := ?_) (a' := ?_) #[true, true, true, true, true, true, true, true, true, true, true, true, true, false, false, false, false, false, false, false, false, false, false, false, false, false, false, false, false, false, false] rfl rfl (any_of HT_.out (by kernel_rfl)) (fun _ _ _ h => h) (Or.inl ⟨by rfl, ?_⟩) ?_ ?_
         rotate_left
         ·
          intro w'
          go_simp
          with_reducible rfl
         rotate_left
         · exact bA
         refine pure_ (i := 13) (N := some 125) (v := ?_) (a' := ?_) #[true, true, true, true, true, true, true, true, true, true, true, true, true, true, false, false, false, false, false, false, false, false, false, false, false, false, false, false, false, false, false] rfl rfl (any_of HT_.out (by kernel_rfl)) (fun _ _ _ h => h) (Or.inl ⟨by rfl, ?_⟩) ?_ ?_
         rotate_left
         ·
          intro w'
          go_simp
          with_reducible rfl
         rotate_left
         · exact bA
         refine pure_ (i := 14) (N := some 126) (v := ?_) (a' := ?_) #[true, true, true, true, true, true, true, true, true, true, true, true, true, true, true, false, false, false, false, false, false, false, false, false, false, false, false, false, false, false, false] rfl rfl (any_of HT_.out (by kernel_rfl)) (fun _ _ _ h => h) (Or.inl ⟨by rfl, ?_⟩) ?_ ?_
         rotate_left
         ·
          intro w'
          go_simp
          with_reducible rfl
         rotate_left
         · exact bA
         refine pure_ (i := 15) (N := some 127) (v := ?_) (a' := ?_) #[true, true, true, true, true, true, true, true, true, true, true, true, true, true, true, true, false, false, false, false, false, false, false, false, false, false, false, false, false, false, false] rfl rfl (any_of HT_.out (by kernel_rfl)) (fun _ _ _ h => h) (Or.inl ⟨by rfl, ?_⟩) ?_ ?_
         rotate_left
         ·
          intro w'
          go_simp
          with_reducible rfl
         rotate_left
         · exact bA
         refine pure_ (i := 16) (N := some 128) (v := ?_) (a' := ?_) #[true, true, true, true, true, true, true, true, true, true, true, true, true, true, true, true, true, false, false, false, false, false, false, false, false, false, false, false, false, false, false] rfl rfl (any_of HT_.out (by kernel_rfl)) (fun _ _ _ h => h) (Or.inl ⟨by rfl, ?_⟩) ?_ ?_
         rotate_left
         ·
          intro w'
          go_simp
          with_reducible rfl
         rotate_left
         · exact bA
         refine pure_ (i := 17) (N := some 129) (v := undef) (a' := ?_) #[true, true, true, true, true, true, true, true, true, true, true, true, true, true, true, true, true, true, false, false, false, false, false, false, false, false, false, false, false, false, false] rfl rfl (any_of HT_.out (by kernel_rfl)) (fun _ _ _ h => h) (Or.inr ⟨by rfl, rfl⟩) ?_ ?_
         rotate_left
         · exact bA
         refine pure_ (i := 18) (N := some 130) (v := undef) (a' := ?_) #[true, true, true, true, true, true, true, true, true, true, true, true, true, true, true, true, true, true, true, false, false, false, false, false, false, false, false, false, false, false, false] rfl rfl (any_of HT_.out (by kernel_rfl)) (fun _ _ _ h => h) (Or.inr ⟨by rfl, rfl⟩) ?_ ?_
         rotate_left
         · exact bA
         refine pure_ (i := 19) (N := some 131) (v := undef) (a' := ?_) #[true, true, true, true, true, true, true, true, true, true, true, true, true, true, true, true, true, true, true, true, false, false, false, false, false, false, false, false, false, false, false] rfl rfl (any_of HT_.out (by kernel_rfl)) (fun _ _ _ h => h) (Or.inr ⟨by rfl, rfl⟩) ?_ ?_
         rotate_left
         · exact bA
         refine pure_ (i := 20) (N := some 132) (v := undef) (a' := ?_) #[true, true, true, true, true, true, true, true, true, true, true, true, true, true, true, true, true, true, true, true, true, false, false, false, false, false, false, false, false, false, false] rfl rfl (any_of HT_.out (by kernel_rfl)) (fun _ _ _ h => h) (Or.inr ⟨by rfl, rfl⟩) ?_ ?_
         rotate_left
         · exact bA
         refine pure_ (i := 21) (N := some 133) (v := undef) (a' := ?_) #[true, true, true, true, true, true, true, true, true, true, true, true, true, true, true, true, true, true, true, true, true, true, false, false, false, false, false, false, false, false, false] rfl rfl (any_of HT_.out (by kernel_rfl)) (fun _ _ _ h => h) (Or.inr ⟨by rfl, rfl⟩) ?_ ?_
         rotate_left
         · exact bA
         refine pure_ (i := 22) (N := some 134) (v := undef) (a' := ?_) #[true, true, true, true, true, true, true, true, true, true, true, true, true, true, true, true, true, true, true, true, true, true, true, false, false, false, false, false, false, false, false] rfl rfl (any_of HT_.out (by kernel_rfl)) (fun _ _ _ h => h) (Or.inr ⟨by rfl, rfl⟩) ?_ ?_
         rotate_left
         · exact bA
         refine pure_ (i := 23) (N := some 135) (v := undef) (a' := ?_) #[true, true, true, true, true, true, true, true, true, true, true, true, true, true, true, true, true, true, true, true, true, true, true, true, false, false, false, false, false, false, false] rfl rfl (any_of HT_.out (by kernel_rfl)) (fun _ _ _ h => h) (Or.inr ⟨by rfl, rfl⟩) ?_ ?_
         rotate_left
         · exact bA
         refine pure_ (i := 24) (N := some 136) (v := undef) (a' := ?_) #[true, true, true, true, true, true, true, true, true, true, true, true, true, true, true, true, true, true, true, true, true, true, true, true, true, false, false, false, false, false, false] rfl rfl (any_of HT_.out (by kernel_rfl)) (fun _ _ _ h => h) (Or.inr ⟨by rfl, rfl⟩) ?_ ?_
         rotate_left
         · exact bA
         refine pure_ (i := 25) (N := some 137) (v := undef) (a' := ?_) #[true, true, true, true, true, true, true, true, true, true, true, true, true, true, true, true, true, true, true, true, true, true, true, true, true, true, false, false, false, false, false] rfl rfl (any_of HT_.out (by kernel_rfl)) (fun _ _ _ h => h) (Or.inr ⟨by rfl, rfl⟩) ?_ ?_
         rotate_left
         · exact bA
         refine pure_ (i := 26) (N := some 138) (v := undef) (a' := ?_) #[true, true, true, true, true, true, true, true, true, true, true, true, true, true, true, true, true, true, true, true, true, true, true, true, true, true, true, false, false, false, false] rfl rfl (any_of HT_.out (by kernel_rfl)) (fun _ _ _ h => h) (Or.inr ⟨by rfl, rfl⟩) ?_ ?_
         rotate_left
         · exact bA
         refine pure_ (i := 27) (N := some 139) (v := undef) (a' := ?_) #[true, true, true, true, true, true, true, true, true, true, true, true, true, true, true, true, true, true, true, true, true, true, true, true, true, true, true, true, false, false, false] rfl rfl (any_of HT_.out (by kernel_rfl)) (fun _ _ _ h => h) (Or.inr ⟨by rfl, rfl⟩) ?_ ?_
         rotate_left
         · exact bA
         refine pure_ (i := 28) (N := some 140) (v := undef) (a' := ?_) #[true, true, true, true, true, true, true, true, true, true, true, true, true, true, true, true, true, true, true, true, true, true, true, true, true, true, true, true, true, false, false] rfl rfl (any_of HT_.out (by kernel_rfl)) (fun _ _ _ h => h) (Or.inr ⟨by rfl, rfl⟩) ?_ ?_
         rotate_left
         · exact bA
         refine pure_ (i := 29) (N := some 141) (v := ?_) (a' := ?_) #[true, true, true, true, true, true, true, true, true, true, true, true, true, true, true, true, true, true, true, true, true, true, true, true, true, true, true, true, true, true, false] rfl rfl (any_of HT_.out (by kernel_rfl)) (fun _ _ _ h => h) (Or.inl ⟨by rfl, ?_⟩) ?_ ?_
         rotate_left
         ·
          intro w'
          go_simp
          with_reducible rfl
         rotate_left
         · exact bA
         refine pure_ (i := 30) (N := some 142) (v := ?_) (a' := ?_) #[true, true, true, true, true, true, true, true, true, true, true, true, true, true, true, true, true, true, true, true, true, true, true, true, true, true, true, true, true, true, true] rfl rfl (any_of HT_.out (by kernel_rfl)) (fun _ _ _ h => h) (Or.inl ⟨by rfl, ?_⟩) ?_ ?_
         rotate_left
         ·
          intro w'
          go_simp
          with_reducible rfl
         rotate_left
         · exact bA
         refine done_ (done_of HT_.out (by kernel_rfl)) ?_
         try go_wp2
         go_meet
         case rel => exact ⟨_, (false), (by first | rfl | (simp; done) | (simp [*]; done)), H', ⟨by have := HJ4.out; first | omega | exact Nat.le_refl _⟩, ⟨by (with_reducible repeat (first | apply Kd.V_alloc | apply Kd.V_drewN | apply Kd.V_drew)); exact HO343.out⟩, ⟨by (with_reducible repeat (first | apply Kd.V_alloc | apply Kd.V_drewN | apply Kd.V_drew)); exact HO348.out⟩, ⟨by (with_reducible repeat (first | refine blk_drewN ?_ _ | refine blk_drew ?_ | refine blk_alloc ?_ _)); exact BK331.out⟩, ⟨by (with_reducible repeat (first | refine blk_drewN ?_ _ | refine blk_drew ?_ | refine blk_alloc ?_ _)); exact BK345.out⟩, ⟨by repeat (first | (with_reducible first | exact HB.out | apply below_alloc | apply pw_below_drewN | apply below_drew1 | refine below_set ?_ GE331.out | refine below_set ?_ GE345.out) | exact HB.out)⟩⟩
        ·
         replace c56 := Bool.eq_false_iff.mpr c56
         subst c56
         have H1 : (none) = some r := by rw [if_neg (show ¬ (false = true) by decide)] at H; exact H
         cases H1
      ·
       rw [if_neg c36] at H
       cases H
     case rest =>
      clear HC22
      try clear c1
      try clear p2
      try clear c3
      try clear c5
      try clear c16
      try clear c36
      try clear c36b0
      try clear c36b1
      try clear c56
      obtain ⟨kq, x142_21, rfl, HA, HJ21, HO_12, HO_14, BK331, BK345, HB⟩ := hcut
      cases kq with
      | zero => exact absurd HA.out (by simp [samphirelaw11_HeapTells.j1])
      | succ kj21 =>
       have H := HA.out
       clear HA
       simp only [samphirelaw11_HeapTells.j1] at H
       by_cases c62 : x142_21 = true
       ·
        subst c62
        have H1 : (none) = some r := by rw [if_pos rfl] at H; exact H
        cases H1
       ·
        replace c62 := Bool.eq_false_iff.mpr c62
        subst c62
        have H1 : (if (l0.length : Int) = 0 then ((heap_Right.f kj21 l0).bind fun t376 => (if t376 = true then (if t344 = 3 then (if t349 = 3 then (if (t338.toList == ([] : List UInt8) && (t339 == 0 && (t340 == 0))) = true then (if (wrap64 ((t341.length : Int) + (t346.length : Int))) = 0 then (if t350 = 0 then (if t351 = true then (none) else ((samphirelaw11_awake.f kj21).bind fun t377 => (some t377))) else (none)) else (none)) else (none)) else (none)) else (none)) else (none))) else (if 0 < (l0.length : Int) then (if (!(t338.toList == (((rd_T25 l0 0).f0).toList)) || (!(t339 == ((rd_T25 l0 0).f1)) || (!(t340 == ((rd_T25 l0 0).f2))))) = true then (none) else (if t344 = 0 then ((samphireref11_Pop.f kj21 l0).bind fun t379 => ((samphireref10_Same.f kj21 t341 t379).bind fun t382 => (samphirelaw11_HeapTells.j2 kj21 l0 a2 a3 t346 t349 t350 t351 t358 (!t382) a1_0 a1_1 a1_2))) else (none))) else (none))) = some r := by rw [if_neg (show ¬ (false = true) by decide)] at H; exact H
        clear H
        have H := H1
        clear H1
        by_cases c63 : (l0.length : Int) = 0
        ·
         rw [if_pos c63] at H
         have c63b0 : ((l0.length : Int) == 0) = true := beq_iff_eq.mpr c63
         have c63b1 : ((l0.length : Int) != 0) = false := bne_eq_false_iff_eq.mpr c63
         clear c63
         replace H := Option.bind_eq_some_iff.mp H
         obtain ⟨t376, A640, H⟩ := H
         replace H : (if t376 = true then (if t344 = 3 then (if t349 = 3 then (if (t338.toList == ([] : List UInt8) && (t339 == 0 && (t340 == 0))) = true then (if (wrap64 ((t341.length : Int) + (t346.length : Int))) = 0 then (if t350 = 0 then (if t351 = true then (none) else ((samphirelaw11_awake.f kj21).bind fun t377 => (some t377))) else (none)) else (none)) else (none)) else (none)) else (none)) else (none)) = some r := H
         have A64 := Aside0.mk A640
         clear A640
         by_cases c65 : t376 = true
         ·
          subst c65
          have H1 : (if t344 = 3 then (if t349 = 3 then (if (t338.toList == ([] : List UInt8) && (t339 == 0 && (t340 == 0))) = true then (if (wrap64 ((t341.length : Int) + (t346.length : Int))) = 0 then (if t350 = 0 then (if t351 = true then (none) else ((samphirelaw11_awake.f kj21).bind fun t377 => (some t377))) else (none)) else (none)) else (none)) else (none)) else (none)) = some r := by rw [if_pos rfl] at H; exact H
          clear H
          have H := H1
          clear H1
          by_cases c66 : t344 = 3
          ·
           rw [if_pos c66] at H
           have c66b0 : (t344 == 3) = true := beq_iff_eq.mpr c66
           have c66b1 : (t344 != 3) = false := bne_eq_false_iff_eq.mpr c66
           clear c66
           by_cases c67 : t349 = 3
           ·
            rw [if_pos c67] at H
            have c67b0 : (t349 == 3) = true := beq_iff_eq.mpr c67
            have c67b1 : (t349 != 3) = false := bne_eq_false_iff_eq.mpr c67
            clear c67
            by_cases c68 : (t338.toList == ([] : List UInt8) && (t339 == 0 && (t340 == 0))) = true
            ·
             rw [if_pos c68] at H
             have c68b0 : (t338.toList == ([] : List UInt8) && (t339 == 0 && (t340 == 0))) = true := c68
             (try (have c68b1 : decide (t338.toList = ([] : List UInt8) && (t339 == 0 && (t340 == 0))) = true := by simpa using c68))
             (try (have c68b2 : (t338.toList == ([] : List UInt8) && (t339 == 0 && (t340 == 0))) = true := by simpa using c68))
             clear c68
             by_cases c69 : (wrap64 ((t341.length : Int) + (t346.length : Int))) = 0
             ·
              rw [if_pos c69] at H
              have c69b0 : ((wrap64 ((t341.length : Int) + (t346.length : Int))) == 0) = true := beq_iff_eq.mpr c69
              have c69b1 : ((wrap64 ((t341.length : Int) + (t346.length : Int))) != 0) = false := bne_eq_false_iff_eq.mpr c69
              clear c69
              by_cases c70 : t350 = 0
              ·
               rw [if_pos c70] at H
               have c70b0 : (t350 == 0) = true := beq_iff_eq.mpr c70
               have c70b1 : (t350 != 0) = false := bne_eq_false_iff_eq.mpr c70
               clear c70
               by_cases c71 : t351 = true
               ·
                subst c71
                have H1 : (none) = some r := by rw [if_pos rfl] at H; exact H
                cases H1
               ·
                replace c71 := Bool.eq_false_iff.mpr c71
                subst c71
                have H1 : ((samphirelaw11_awake.f kj21).bind fun t377 => (some t377)) = some r := by rw [if_neg (show ¬ (false = true) by decide)] at H; exact H
                clear H
                have H := H1
                clear H1
                replace H := Option.bind_eq_some_iff.mp H
                obtain ⟨t377, A770, H⟩ := H
                replace H : (some t377) = some r := H
                have A77 := Aside0.mk A770
                clear A770
                obtain rfl := Option.some.inj H
                go_wp2_with (first | ((with_reducible refine gate_callee (f := 15) rfl ?_); refine goesL_ (some 147) rfl rfl Try.func15 (by kernel_rfl) rfl #[.slice A0 l0.length c0] rfl (by (try simp only [List.map_toArray, List.map_cons, List.map_nil]); first | done | rfl | (simp only [List.length_drop, List.length_take]; rfl)) ?_; (with_reducible refine (heap_Right.calls kj21 _ _ l0 true _ ?side1 ?side2 A64.out).mono ?_); (case side1 => repeat (first | exact (Kd.C_below HR0.out HB.out) | (with_reducible refine Kd.C_alloc ?_ _) | (with_reducible refine Kd.C_drewN ?_ _) | (with_reducible refine Kd.C_drew ?_))); (case side2 => exact HC0.out); rintro e w78 ⟨rfl, hb⟩; refine ⟨_, rfl, ?_⟩; have n0_ := Aside0.mk (Kd.V_below (by (with_reducible repeat (first | apply Kd.V_alloc | apply Kd.V_drewN | apply Kd.V_drew)); exact HO_12.out) hb); have n1_ := Aside0.mk (Kd.V_below (by (with_reducible repeat (first | apply Kd.V_alloc | apply Kd.V_drewN | apply Kd.V_drew)); exact HO_14.out) hb); have n2_ := Aside0.mk (blk_below (bT BK331.out) hb); have n3_ := Aside0.mk (blk_below (bT BK345.out) hb); have n4_ := Aside0.mk (below_step (bW HB.out) hb); clear HO_12 HO_14 BK331 BK345 HB; have HO_12 := n0_; have HO_14 := n1_; have BK331 := n2_; have BK345 := n3_; have HB := n4_; clear n0_ n1_ n2_ n3_ n4_; (try clear hb); (try clear hb2); (try clear hk); (try clear hi); have hnb79 := NB345_331.out; have hnc79 := NB331_345.out; have hcz80_0 : w78.cell? ⟨gb345, 0, none⟩ = some (.string t338) := (blk_cell BK345.out 0).trans rfl; have hcz80_1 : w78.cell? ⟨gb345, 1, none⟩ = some (.int .u64 t339) := (blk_cell BK345.out 1).trans rfl; have hcz80_2 : w78.cell? ⟨gb345, 2, none⟩ = some (.int .u64 t340) := (blk_cell BK345.out 2).trans rfl; have hfz80_0 := blk_frozen BK345.out 0; have hfz80_1 := blk_frozen BK345.out 1; have hfz80_2 := blk_frozen BK345.out 2; obtain ⟨Ao81, co81, eo81⟩ := Kd.V_slice HO_12.out; subst eo81; obtain ⟨Ao82, co82, eo82⟩ := Kd.V_slice HO_14.out; subst eo82) | (go_at_call 9; (with_reducible refine (samphirelaw11_awake.calls kj21  t377 _ A77.out).mono ?_); rintro e w83 ⟨rfl, hb⟩; have n0_ := Aside0.mk (Kd.V_below (by (with_reducible repeat (first | apply Kd.V_alloc | apply Kd.V_drewN | apply Kd.V_drew)); exact HO_12.out) hb); have n1_ := Aside0.mk (Kd.V_below (by (with_reducible repeat (first | apply Kd.V_alloc | apply Kd.V_drewN | apply Kd.V_drew)); exact HO_14.out) hb); have n2_ := Aside0.mk (blk_below (bT BK331.out) hb); have n3_ := Aside0.mk (blk_below (bT BK345.out) hb); have n4_ := Aside0.mk (below_step (bW HB.out) hb); clear HO_12 HO_14 BK331 BK345 HB; have HO_12 := n0_; have HO_14 := n1_; have BK331 := n2_; have BK345 := n3_; have HB := n4_; clear n0_ n1_ n2_ n3_ n4_; (try clear hb); (try clear hb2); (try clear hk); (try clear hi)))
                go_ret
                exact ⟨by first | rfl | (simp [errW_none, errW_some] <;> rfl) | (simp [*, errW_none, errW_some] <;> rfl), by repeat (first | (with_reducible first | exact HB.out | apply below_alloc | apply pw_below_drewN | apply below_drew1 | refine below_set ?_ GE331.out | refine below_set ?_ GE345.out) | exact HB.out)⟩
                all_goals (rename_i h_; exact absurd (by simpa using c68b0) h_)
              ·
               rw [if_neg c70] at H
               have c70b0 : (t350 == 0) = false := beq_eq_false_iff_ne.mpr c70
               have c70b1 : (t350 != 0) = true := bne_iff_ne.mpr c70
               cases H
             ·
              rw [if_neg c69] at H
              have c69b0 : ((wrap64 ((t341.length : Int) + (t346.length : Int))) == 0) = false := beq_eq_false_iff_ne.mpr c69
              have c69b1 : ((wrap64 ((t341.length : Int) + (t346.length : Int))) != 0) = true := bne_iff_ne.mpr c69
              cases H
            ·
             rw [if_neg c68] at H
             have c68b0 : (t338.toList == ([] : List UInt8) && (t339 == 0 && (t340 == 0))) = false := by simpa using c68
             (try (have c68b1 : decide (t338.toList = ([] : List UInt8) && (t339 == 0 && (t340 == 0))) = false := by simpa using c68))
             (try (have c68b2 : (t338.toList == ([] : List UInt8) && (t339 == 0 && (t340 == 0))) = false := by simpa using c68))
             (try (have c68b3 : ¬ (t338.toList = ([] : List UInt8) && (t339 == 0 && (t340 == 0))) := by simpa using c68))
             clear c68
             cases H
           ·
            rw [if_neg c67] at H
            have c67b0 : (t349 == 3) = false := beq_eq_false_iff_ne.mpr c67
            have c67b1 : (t349 != 3) = true := bne_iff_ne.mpr c67
            cases H
          ·
           rw [if_neg c66] at H
           have c66b0 : (t344 == 3) = false := beq_eq_false_iff_ne.mpr c66
           have c66b1 : (t344 != 3) = true := bne_iff_ne.mpr c66
           cases H
         ·
          replace c65 := Bool.eq_false_iff.mpr c65
          subst c65
          have H1 : (none) = some r := by rw [if_neg (show ¬ (false = true) by decide)] at H; exact H
          cases H1
        ·
         rw [if_neg c63] at H
         have c63b0 : ((l0.length : Int) == 0) = false := beq_eq_false_iff_ne.mpr c63
         have c63b1 : ((l0.length : Int) != 0) = true := bne_iff_ne.mpr c63
         have c63b2 : ¬ (l0 = []) := fun h_ => c63 (by rw [h_]; rfl)
         have HC100 := Aside0.mk H
         clear H
         go_upto_region 14 with (fail)
         go_cut [195] (fun v195 wc => ∃ (kq : Nat) (x195_99 : Bool), v195 = .bool x195_99 ∧ Aside0 (samphirelaw11_HeapTells.j2 kq l0 a2 a3 t346 t349 t350 t351 t358 x195_99 a1_0 a1_1 a1_2 = some r) ∧ Aside0 (kq ≤ kj21) ∧ Aside0 (Kd.V k25 25 wc w.heap.size (fun k_ => k_ ≠ gb331 ∧ k_ ≠ gb345) v347 t346) ∧ Aside0 (wc.heap[gb331]? = some (.cells #[.string a1_0, .int .u64 a1_1, .int .u64 a1_2] 25 (0, 0))) ∧ Aside0 (wc.heap[gb345]? = some (.cells #[.string t338, .int .u64 t339, .int .u64 t340] 25 (0, 0))) ∧ Aside0 (Below w.heap.size w wc))
         case first =>
          as_aux_lemma =>
          have H := HC100.out
          clear HC100
          by_cases c101 : 0 < (l0.length : Int)
          ·
           rw [if_pos c101] at H
           have c101b0 : decide (0 < (l0.length : Int)) = true := decide_eq_true c101
           have c101b1 : decide (0 < l0.length) = true := decide_eq_true (by omega)
           clear c101
           (first | rw [c101b0] | (simp only [i64_w, i32_w]; rw [c101b0]) | skip)
           by_cases c102 : (!(t338.toList == (((rd_T25 l0 0).f0).toList)) || (!(t339 == ((rd_T25 l0 0).f1)) || (!(t340 == ((rd_T25 l0 0).f2))))) = true
           ·
            rw [if_pos c102] at H
            cases H
           ·
            rw [if_neg c102] at H
            have c102b0 : (!(t338.toList == (((rd_T25 l0 0).f0).toList)) || (!(t339 == ((rd_T25 l0 0).f1)) || (!(t340 == ((rd_T25 l0 0).f2))))) = false := by simpa using c102
            clear c102
            by_cases c104 : t344 = 0
            ·
             rw [if_pos c104] at H
             have c104b0 : (t344 == 0) = true := beq_iff_eq.mpr c104
             have c104b1 : (t344 != 0) = false := bne_eq_false_iff_eq.mpr c104
             clear c104
             replace H := Option.bind_eq_some_iff.mp H
             obtain ⟨t379, A1050, H⟩ := H
             replace H : ((samphireref10_Same.f kj21 t341 t379).bind fun t382 => (samphirelaw11_HeapTells.j2 kj21 l0 a2 a3 t346 t349 t350 t351 t358 (!t382) a1_0 a1_1 a1_2)) = some r := H
             have A105 := Aside0.mk A1050
             clear A1050
             replace H := Option.bind_eq_some_iff.mp H
             obtain ⟨t382, A1060, H⟩ := H
             replace H : (samphirelaw11_HeapTells.j2 kj21 l0 a2 a3 t346 t349 t350 t351 t358 (!t382) a1_0 a1_1 a1_2) = some r := H
             have A106 := Aside0.mk A1060
             clear A1060
             have H' := Aside0.mk H
             clear H
             try go_wp2
             have n0_ := Aside0.mk (Kd.V_drew HO_12.out)
             have n1_ := Aside0.mk (Kd.V_drew HO_14.out)
             have n2_ := Aside0.mk (blk_drew BK331.out)
             have n3_ := Aside0.mk (blk_drew BK345.out)
             have n4_ := Aside0.mk (below_drew1 HB.out)
             clear HO_12 HO_14 BK331 BK345 HB
             have HO_12 := n0_
             have HO_14 := n1_
             have BK331 := n2_
             have BK345 := n3_
             have HB := n4_
             clear n0_ n1_ n2_ n3_ n4_
             have p378 : 0 ≤ (0 : Int) := (by omega)
             have q378 : 0 < (l0.length : Int) := of_decide_eq_true (by first | (with_reducible assumption) | assumption)
             obtain ⟨ad378, e378, hx378_0, hx378_1, hx378_2⟩ := at_T25 HR0.out 0 p378 q378
             have hw378_2 := hx378_2
             (try rw [show ((0 : Int)).toNat = 0 from rfl] at hw378_2)
             (try rw [show 0 * 3 = 0 from rfl] at hw378_2)
             (try rw [Addr.add_zero'] at hw378_2)
             have hw378_1 := hx378_1
             (try rw [show ((0 : Int)).toNat = 0 from rfl] at hw378_1)
             (try rw [show 0 * 3 = 0 from rfl] at hw378_1)
             (try rw [Addr.add_zero'] at hw378_1)
             have hw378_0 := hx378_0
             (try rw [show ((0 : Int)).toNat = 0 from rfl] at hw378_0)
             (try rw [show 0 * 3 = 0 from rfl] at hw378_0)
             (try rw [Addr.add_zero'] at hw378_0)
             cases e378
             have qi378 : (0 < l0.length) = True := eq_true (by omega)
             (try rw [show ((0 : Int)).toNat = 0 from rfl] at hx378_0)
             (try rw [show 0 * 3 = 0 from rfl] at hx378_0)
             (try rw [Addr.add_zero'] at hx378_0)
             (try rw [show ((0 : Int)).toNat = 0 from rfl] at hx378_1)
             (try rw [show 0 * 3 = 0 from rfl] at hx378_1)
             (try rw [Addr.add_zero'] at hx378_1)
             (try rw [show ((0 : Int)).toNat = 0 from rfl] at hx378_2)
             (try rw [show 0 * 3 = 0 from rfl] at hx378_2)
             (try rw [Addr.add_zero'] at hx378_2)
             replace hx378_0 := (HB.out.cell (World.block_lt_of_cell? w _ hx378_0)).trans hx378_0
             replace hx378_1 := (HB.out.cell (World.block_lt_of_cell? w _ hx378_1)).trans hx378_1
             replace hx378_2 := (HB.out.cell (World.block_lt_of_cell? w _ hx378_2)).trans hx378_2
             replace p378 := eq_true p378
             replace q378 := eq_true q378
             refine start_ (n := 16) (S := fun w' => w'.cell? ⟨gb345, 0, none⟩ = some (.string t338) ∧ w'.cell? ⟨gb345, 1, none⟩ = some (.int .u64 t339) ∧ w'.cell? ⟨gb345, 2, none⟩ = some (.int .u64 t340) ∧ w'.cell? ad378 = some (.string ((rd_T25 l0 0).f0)) ∧ w'.cell? ⟨ad378.block, ad378.off + 1, none⟩ = some (.int .u64 ((rd_T25 l0 0).f1)) ∧ w'.cell? ⟨ad378.block, ad378.off + 2, none⟩ = some (.int .u64 ((rd_T25 l0 0).f2))) (ds := []) #[false, false, false, false, false, false, false, false, false, false, false, false, false, false, false, false] (by kernel_rfl) rfl rfl ⟨(blk_cell BK345.out 0).trans rfl, (blk_cell BK345.out 1).trans rfl, (blk_cell BK345.out 2).trans rfl, ((HB.out.cell (World.block_lt_of_cell? w _ hw378_0)).trans hw378_0), ((HB.out.cell (World.block_lt_of_cell? w _ hw378_1)).trans hw378_1), ((HB.out.cell (World.block_lt_of_cell? w _ hw378_2)).trans hw378_2)⟩ (fun hHeld => ?_); refine with_tabW samphirelaw11_HeapTells.tab14 samphirelaw11_HeapTells.bits14 (fun HT_ HW_ => ?_)
             generalize wc.drew = w107 at HO_12 HO_14 BK331 BK345 HB hx378_0 hx378_1 hx378_2 hHeld ⊢
             refine pure_ (i := 1) (N := some 181) (v := ?_) (a' := ?_) #[false, true, false, false, false, false, false, false, false, false, false, false, false, false, false, false] rfl rfl (any_of HT_.out (by kernel_rfl)) (fun _ _ _ h => h) (Or.inl ⟨by rfl, ?_⟩) ?_ ?_
             rotate_left
             ·
              intro w'
              go_simp
              with_reducible rfl
             rotate_left
             · exact bA
             refine pure_ (i := 2) (N := some 182) (v := ?_) (a' := ?_) #[false, true, true, false, false, false, false, false, false, false, false, false, false, false, false, false] rfl rfl (any_of HT_.out (by kernel_rfl)) (fun _ _ _ h => h) (Or.inl ⟨by rfl, ?_⟩) ?_ ?_
             rotate_left
             ·
              intro w'
              go_simp
              with_reducible rfl
             rotate_left
             · exact bA
             refine take_ (i := 0) (N := some 180) (v := ?_) (a' := ?_) #[true, true, true, false, false, false, false, false, false, false, false, false, false, false, false, false] rfl rfl (take_ofW HT_.out HW_.out (by kernel_rfl)) (fun _ _ _ h => h) (Or.inl ⟨by rfl, ?_⟩) hHeld ?_ ?_
             rotate_left
             ·
              rintro w' ⟨s0, s1, s2, s3, s4, s5⟩
              go_simp
              with_reducible rfl
             rotate_left
             · exact bA
             refine take_ (i := 3) (N := some 183) (v := ?_) (a' := ?_) #[true, true, true, true, false, false, false, false, false, false, false, false, false, false, false, false] rfl rfl (take_ofW HT_.out HW_.out (by kernel_rfl)) (fun _ _ _ h => h) (Or.inl ⟨by rfl, ?_⟩) hHeld ?_ ?_
             rotate_left
             ·
              rintro w' ⟨s0, s1, s2, s3, s4, s5⟩
              go_simp
              with_reducible rfl
             rotate_left
             · exact bA
             refine pure_ (i := 4) (N := some 184) (v := ?_) (a' := ?_) #[true, true, true, true, true, false, false, false, false, false, false, false, false, false, false, false] rfl rfl (any_of HT_.out (by kernel_rfl)) (fun _ _ _ h => h) (Or.inl ⟨by rfl, ?_⟩) ?_ ?_
             rotate_left
             ·
              intro w'
              go_simp
              with_reducible rfl
             rotate_left
             · exact bA
             refine pure_ (i := 5) (N := some 185) (v := ?_) (a' := ?_) #[true, true, true, true, true, true, false, false, false, false, false, false, false, false, false, false] rfl rfl (any_of HT_.out (by kernel_rfl)) (fun _ _ _ h => h) (Or.inl ⟨by rfl, ?_⟩) ?_ ?_
             rotate_left
             ·
              intro w'
              go_simp
              with_reducible rfl
             rotate_left
             · exact bA
             refine pure_ (i := 6) (N := some 186) (v := ?_) (a' := ?_) #[true, true, true, true, true, true, true, false, false, false, false, false, false, false, false, false] rfl rfl (any_of HT_.out (by kernel_rfl)) (fun _ _ _ h => h) (Or.inl ⟨by rfl, ?_⟩) ?_ ?_
             rotate_left
             ·
              intro w'
              go_simp
              with_reducible rfl
             rotate_left
             · exact bA
             refine pure_ (i := 7) (N := some 187) (v := ?_) (a' := ?_) #[true, true, true, true, true, true, true, true, false, false, false, false, false, false, false, false] rfl rfl (any_of HT_.out (by kernel_rfl)) (fun _ _ _ h => h) (Or.inl ⟨by rfl, ?_⟩) ?_ ?_
             rotate_left
             ·
              intro w'
              go_simp
              with_reducible rfl
             rotate_left
             · exact bA
             refine pure_ (i := 8) (N := some 188) (v := ?_) (a' := ?_) #[true, true, true, true, true, true, true, true, true, false, false, false, false, false, false, false] rfl rfl (any_of HT_.out (by kernel_rfl)) (fun _ _ _ h => h) (Or.inl ⟨by rfl, ?_⟩) ?_ ?_
             rotate_left
             ·
              intro w'
              go_simp
              with_reducible rfl
             rotate_left
             · exact bA
             refine pure_ (i := 9) (N := some 189) (v := ?_) (a' := ?_) #[true, true, true, true, true, true, true, true, true, true, false, false, false, false, false, false] rfl rfl (any_of HT_.out (by kernel_rfl)) (fun _ _ _ h => h) (Or.inl ⟨by rfl, ?_⟩) ?_ ?_
             rotate_left
             ·
              intro w'
              go_simp
              with_reducible rfl
             rotate_left
             · exact bA
             refine pure_ (i := 10) (N := some 190) (v := ?_) (a' := ?_) #[true, true, true, true, true, true, true, true, true, true, true, false, false, false, false, false] rfl rfl (any_of HT_.out (by kernel_rfl)) (fun _ _ _ h => h) (Or.inl ⟨by rfl, ?_⟩) ?_ ?_
             rotate_left
             ·
              intro w'
              go_simp
              with_reducible rfl
             rotate_left
             · exact bA
             refine pure_ (i := 11) (N := some 191) (v := ?_) (a' := ?_) #[true, true, true, true, true, true, true, true, true, true, true, true, false, false, false, false] rfl rfl (any_of HT_.out (by kernel_rfl)) (fun _ _ _ h => h) (Or.inl ⟨by rfl, ?_⟩) ?_ ?_
             rotate_left
             ·
              intro w'
              go_simp
              with_reducible rfl
             rotate_left
             · exact bA
             refine one_ (i := 12) (N := some 192) #[true, true, true, true, true, true, true, true, true, true, true, true, true, false, false, false] rfl rfl (one_of HT_.out (by kernel_rfl)) (by decide) (fun K hK => ?_)
             refine goes_ Try.func19 (by kernel_rfl) rfl #[.slice (some ad378) l0.length c0] (by rfl) rfl rfl (by (try simp only [List.map_toArray, List.map_cons, List.map_nil]); first | done | rfl | (simp only [List.length_drop, List.length_take]; rfl)) ?_
             with_reducible refine (samphireref11_Pop.calls kj21 _ _ l0 t379 _ ?side1 ?side2 A105.out).mono ?_
             (case side1 => repeat (first | exact (Kd.C_below HR0.out HB.out) | (with_reducible refine Kd.C_alloc ?_ _) | (with_reducible refine Kd.C_drewN ?_ _) | (with_reducible refine Kd.C_drew ?_)))
             (case side2 => exact HC0.out)
             rintro e w108 ⟨v380, rfl, ho0, hb⟩
             refine ⟨_, rfl, ?_⟩
             have n0_ := Aside0.mk (Kd.V_below (by (with_reducible repeat (first | apply Kd.V_alloc | apply Kd.V_drewN | apply Kd.V_drew)); exact HO_12.out) hb)
             have n1_ := Aside0.mk (Kd.V_below (by (with_reducible repeat (first | apply Kd.V_alloc | apply Kd.V_drewN | apply Kd.V_drew)); exact HO_14.out) hb)
             have n2_ := Aside0.mk (Kd.V_lower (Kd.V_mono (ok' := fun k_ => k_ ≠ gb331 ∧ k_ ≠ gb345) ho0 (fun k_ hk_ => ⟨(Kd.freshB (bT BK331.out) k_ hk_), (Kd.freshB (bT BK345.out) k_ hk_)⟩)) (below_size (bW HB.out)))
             have n3_ := Aside0.mk (blk_below (bT BK331.out) hb)
             have n4_ := Aside0.mk (blk_below (bT BK345.out) hb)
             have n5_ := Aside0.mk (below_step (bW HB.out) hb)
             clear HO_12 HO_14 BK331 BK345 HB
             have HO_12 := n0_
             have HO_14 := n1_
             have HO381 := n2_
             have BK331 := n3_
             have BK345 := n4_
             have HB := n5_
             clear n0_ n1_ n2_ n3_ n4_ n5_
             (try clear hb)
             (try clear hb2)
             (try clear hk)
             (try clear hi)
             (try clear ho0)
             obtain ⟨Ao109, co109, eo109⟩ := Kd.V_slice HO_12.out
             (first | subst eo109 | (injection eo109 with f1_ f2_ f3_; have f4_ := f1_.symm; have f5_ := f3_.symm; clear f1_ f2_ f3_; subst f4_; subst f5_))
             obtain ⟨Ao110, co110, eo110⟩ := Kd.V_slice HO381.out
             (first | subst eo110 | (injection eo110 with f1_ f2_ f3_; have f4_ := f1_.symm; have f5_ := f3_.symm; clear f1_ f2_ f3_; subst f4_; subst f5_))
             refine hK.out _ _ ⟨(blk_cell BK345.out 0).trans rfl, (blk_cell BK345.out 1).trans rfl, (blk_cell BK345.out 2).trans rfl, ((HB.out.cell (World.block_lt_of_cell? w _ hw378_0)).trans hw378_0), ((HB.out.cell (World.block_lt_of_cell? w _ hw378_1)).trans hw378_1), ((HB.out.cell (World.block_lt_of_cell? w _ hw378_2)).trans hw378_2)⟩ (fun hHeld => ?_)
             clear hK K
             refine norm_ (a' := ?_) ?_ ?_
             rotate_left
             ·
              show Act.put _ (some 192) _ = _
              simp only [Act.put, List.setIfInBounds_toArray, List.set_cons_zero, List.set_cons_succ, i64_w, i32_w]
              rfl
             refine one_ (i := 13) (N := some 193) #[true, true, true, true, true, true, true, true, true, true, true, true, true, true, false, false] rfl rfl (one_of HT_.out (by kernel_rfl)) (by decide) (fun K hK => ?_)
             refine goes_ Try.func16 (by kernel_rfl) rfl #[.slice Ao109 t341.length co109, .slice Ao110 t379.length co110] (by rfl) rfl rfl (by (try simp only [List.map_toArray, List.map_cons, List.map_nil]); first | done | rfl | (simp only [List.length_drop, List.length_take]; rfl)) ?_
             with_reducible refine (samphireref10_Same.calls kj21 _ _ t341 _ _ t379 t382 _ ?side1 ?side2 ?side3 ?side4 A106.out).mono ?_
             (case side1 => repeat (first | exact (Kd.V_reads' HO_12.out).2.2 | (with_reducible refine Kd.C_alloc ?_ _) | (with_reducible refine Kd.C_drewN ?_ _) | (with_reducible refine Kd.C_drew ?_)))
             (case side2 => exact (Kd.V_reads' HO_12.out).2.1)
             (case side3 => repeat (first | exact (Kd.V_reads' HO381.out).2.2 | (with_reducible refine Kd.C_alloc ?_ _) | (with_reducible refine Kd.C_drewN ?_ _) | (with_reducible refine Kd.C_drew ?_)))
             (case side4 => exact (Kd.V_reads' HO381.out).2.1)
             rintro e w' ⟨rfl, ⟨nd, rfl⟩⟩
             refine ⟨_, rfl, ?_⟩
             refine hK.out _ _ ⟨(blk_cell BK345.out 0).trans rfl, (blk_cell BK345.out 1).trans rfl, (blk_cell BK345.out 2).trans rfl, ((HB.out.cell (World.block_lt_of_cell? w _ hw378_0)).trans hw378_0), ((HB.out.cell (World.block_lt_of_cell? w _ hw378_1)).trans hw378_1), ((HB.out.cell (World.block_lt_of_cell? w _ hw378_2)).trans hw378_2)⟩ (fun hHeld => ?_)
             clear hK K
             refine norm_ (a' := ?_) ?_ ?_
             rotate_left
             ·
              show Act.put _ (some 193) _ = _
              simp only [Act.put, List.setIfInBounds_toArray, List.set_cons_zero, List.set_cons_succ, i64_w, i32_w]
              rfl
             refine pure_ (i := 14) (N := some 194) (v := ?_) (a' := ?_) #[true, true, true, true, true, true, true, true, true, true, true, true, true, true, true, false] rfl rfl (any_of HT_.out (by kernel_rfl)) (fun _ _ _ h => h) (Or.inl ⟨by rfl, ?_⟩) ?_ ?_
             rotate_left
             ·
              intro w'
              go_simp
              with_reducible rfl
             rotate_left
             · exact bA
             refine pure_ (i := 15) (N := some 195) (v := ?_) (a' := ?_) #[true, true, true, true, true, true, true, true, true, true, true, true, true, true, true, true] rfl rfl (any_of HT_.out (by kernel_rfl)) (fun _ _ _ h => h) (Or.inl ⟨by rfl, ?_⟩) ?_ ?_
             rotate_left
             ·
              intro w'
              go_simp
              with_reducible rfl
             rotate_left
             · exact bA
             refine done_ (done_of HT_.out (by kernel_rfl)) ?_
             try go_wp2
             go_meet
             case rel => exact ⟨_, (!t382), (by first | rfl | (simp; done) | (simp [*]; done)), H', ⟨by have := HJ4.out; have := HJ21.out; first | omega | exact Nat.le_refl _⟩, ⟨by (with_reducible repeat (first | apply Kd.V_alloc | apply Kd.V_drewN | apply Kd.V_drew)); exact HO_14.out⟩, ⟨by (with_reducible repeat (first | refine blk_drewN ?_ _ | refine blk_drew ?_ | refine blk_alloc ?_ _)); exact BK331.out⟩, ⟨by (with_reducible repeat (first | refine blk_drewN ?_ _ | refine blk_drew ?_ | refine blk_alloc ?_ _)); exact BK345.out⟩, ⟨by repeat (first | (with_reducible first | exact HB.out | apply below_alloc | apply pw_below_drewN | apply below_drew1 | refine below_set ?_ GE331.out | refine below_set ?_ GE345.out) | exact HB.out)⟩⟩
            ·
             rw [if_neg c104] at H
             cases H
          ·
           rw [if_neg c101] at H
           exact absurd H (by simp)
         case rest =>
          clear HC100
          try clear c1
          try clear p2
          try clear p3
          try clear q3
          try clear hx3
          try clear qi3
          try clear c6
          try clear c10
          try clear c15
          try clear c16
          try clear c19
          try clear p37
          try clear q37
          try clear hx37
          try clear qi37
          try clear c63
          try clear c63b0
          try clear c63b1
          try clear c63b2
          try clear c65
          try clear c101
          try clear c101b0
          try clear c101b1
          try clear c102
          try clear c102b0
          try clear c104
          try clear c104b0
          try clear c104b1
          try clear hx378_0
          try clear hx378_1
          try clear hx378_2
          try clear p378
          try clear q378
          obtain ⟨kq, x195_99, rfl, HA, HJ99, HO_14, BK331, BK345, HB⟩ := hcut
          cases kq with
          | zero => exact absurd HA.out (by simp [samphirelaw11_HeapTells.j2])
          | succ kj99 =>
           have H := HA.out
           clear HA
           simp only [samphirelaw11_HeapTells.j2] at H
           by_cases c112 : x195_99 = true
           ·
            subst c112
            have H1 : (none) = some r := by rw [if_pos rfl] at H; exact H
            cases H1
           ·
            replace c112 := Bool.eq_false_iff.mpr c112
            subst c112
            have H1 : (samphirelaw11_HeapTells.l0 kj99 l0 a2 a3 t346 t349 t350 t351 t358 (-1) (wrap64 ((l0.length : Int) - 1)) a1_0 a1_1 a1_2) = some r := by rw [if_neg (show ¬ (false = true) by decide)] at H; exact H
            clear H
            have H := H1
            clear H1
            have H' := Aside0.mk H
            clear H
            go_wp2
            go_loopg [19, 20] kj99 (fun kq v19 v20 w' => ∃ (x19_4 : Int) (x20_4 : Int), v19 = .int .i64 x19_4 ∧ v20 = .int .i64 x20_4 ∧ Aside0 (samphirelaw11_HeapTells.l0 kq l0 a2 a3 t346 t349 t350 t351 t358 x19_4 x20_4 a1_0 a1_1 a1_2 = some r) ∧ Aside0 (kq ≤ kj99) ∧ Aside0 (Kd.V k25 25 w' w.heap.size (fun k_ => k_ ≠ gb331 ∧ k_ ≠ gb345) v347 t346) ∧ Aside0 (w'.heap[gb331]? = some (.cells #[.string a1_0, .int .u64 a1_1, .int .u64 a1_2] 25 (0, 0))) ∧ Aside0 (w'.heap[gb345]? = some (.cells #[.string t338, .int .u64 t339, .int .u64 t340] 25 (0, 0))) ∧ Aside0 (Below w.heap.size w w'))
            case atStart => exact ⟨((-1)), (wrap64 ((l0.length : Int) - 1)), (by first | rfl | (simp; done) | (simp [*]; done)), (by first | rfl | (simp; done) | (simp [*]; done)), H', ⟨Nat.le_refl _⟩, ⟨by (with_reducible repeat (first | apply Kd.V_alloc | apply Kd.V_drewN | apply Kd.V_drew)); exact HO_14.out⟩, ⟨by (with_reducible repeat (first | refine blk_drewN ?_ _ | refine blk_drew ?_ | refine blk_alloc ?_ _)); exact BK331.out⟩, ⟨by (with_reducible repeat (first | refine blk_drewN ?_ _ | refine blk_drew ?_ | refine blk_alloc ?_ _)); exact BK345.out⟩, ⟨by repeat (first | (with_reducible first | exact HB.out | apply below_alloc | apply pw_below_drewN | apply below_drew1 | refine below_set ?_ GE331.out | refine below_set ?_ GE345.out) | exact HB.out)⟩⟩
            case round =>
             clear H'
             try clear c1
             try clear p2
             try clear p3
             try clear q3
             try clear hx3
             try clear qi3
             try clear c6
             try clear p6
             try clear c10
             try clear c11
             try clear c15
             try clear c16
             try clear c19
             try clear p37
             try clear q37
             try clear hx37
             try clear qi37
             try clear c63
             try clear c63b0
             try clear c63b1
             try clear c63b2
             try clear p64
             try clear c65
             try clear c101
             try clear c101b0
             try clear c101b1
             try clear c102
             try clear c102b0
             try clear c104
             try clear c104b0
             try clear c104b1
             try clear c112
             try clear hx378_0
             try clear hx378_1
             try clear hx378_2
             try clear p2
             try clear p3
             try clear p37
             try clear p378
             try clear q3
             try clear q37
             try clear q378
             obtain ⟨x19_4, x20_4, rfl, rfl, HA, HK4, HO_14, BK331, BK345, HB⟩ := hrel
             cases gk with
             | zero => exact absurd HA.out (by simp [samphirelaw11_HeapTells.l0])
             | succ k4 =>
              have H := HA.out
              clear HA
              simp only [samphirelaw11_HeapTells.l0] at H
              by_cases c113 : x20_4 ≥ 0
              ·
               rw [if_pos c113] at H
               have c113b0 : decide (0 ≤ x20_4) = true := decide_eq_true c113
               clear c113
               by_cases c114 : 0 ≤ x20_4
               ·
                rw [if_pos c114] at H
                have c114b0 : decide (0 ≤ x20_4) = true := decide_eq_true c114
                clear c114
                by_cases c115 : x20_4 < (l0.length : Int)
                ·
                 rw [if_pos c115] at H
                 have c115b0 : decide (x20_4 < (l0.length : Int)) = true := decide_eq_true c115
                 clear c115
                 by_cases c116 : ((rd_T25 l0 x20_4).f0).toList = a3.toList
                 ·
                  rw [if_pos c116] at H
                  have c116b0 : (((rd_T25 l0 x20_4).f0).toList == a3.toList) = true := beq_iff_eq.mpr c116
                  have c116b1 : (((rd_T25 l0 x20_4).f0).toList != a3.toList) = false := bne_eq_false_iff_eq.mpr c116
                  clear c116
                  have H' := Aside0.mk H
                  clear H
                  have p383 : 0 ≤ (x20_4 : Int) := of_decide_eq_true (by first | (with_reducible assumption) | assumption)
                  have q383 : x20_4 < (l0.length : Int) := of_decide_eq_true (by first | (with_reducible assumption) | assumption)
                  obtain ⟨ad383, e383, hx383_0, hx383_1, hx383_2⟩ := at_T25 HR0.out x20_4 p383 q383
                  cases e383
                  replace hx383_0 := (HB.out.cell (World.block_lt_of_cell? w _ hx383_0)).trans hx383_0
                  replace hx383_1 := (HB.out.cell (World.block_lt_of_cell? w _ hx383_1)).trans hx383_1
                  replace hx383_2 := (HB.out.cell (World.block_lt_of_cell? w _ hx383_2)).trans hx383_2
                  replace p383 := eq_true p383
                  replace q383 := eq_true q383
                  go_wp2
                  go_roundg k4
                  case measure => have := HJ4.out; have := HJ21.out; have := HJ99.out; have := HK4.out; omega
                  case rel => exact ⟨(x20_4), (wrap64 (x20_4 - 1)), (by first | rfl | (simp; done) | (simp [*]; done)), (by first | rfl | (simp; done) | (simp [*]; done)), H', ⟨by have := HJ4.out; have := HJ21.out; have := HJ99.out; have := HK4.out; omega⟩, ⟨by (with_reducible repeat (first | apply Kd.V_alloc | apply Kd.V_drewN | apply Kd.V_drew)); exact HO_14.out⟩, ⟨by (with_reducible repeat (first | refine blk_drewN ?_ _ | refine blk_drew ?_ | refine blk_alloc ?_ _)); exact BK331.out⟩, ⟨by (with_reducible repeat (first | refine blk_drewN ?_ _ | refine blk_drew ?_ | refine blk_alloc ?_ _)); exact BK345.out⟩, ⟨by repeat (first | (with_reducible first | exact HB.out | apply below_alloc | apply pw_below_drewN | apply below_drew1 | refine below_set ?_ GE331.out | refine below_set ?_ GE345.out) | exact HB.out)⟩⟩
                 ·
                  rw [if_neg c116] at H
                  have c116b0 : (((rd_T25 l0 x20_4).f0).toList == a3.toList) = false := beq_eq_false_iff_ne.mpr c116
                  have c116b1 : (((rd_T25 l0 x20_4).f0).toList != a3.toList) = true := bne_iff_ne.mpr c116
                  have H' := Aside0.mk H
                  clear H
                  have p383 : 0 ≤ (x20_4 : Int) := of_decide_eq_true (by first | (with_reducible assumption) | assumption)
                  have q383 : x20_4 < (l0.length : Int) := of_decide_eq_true (by first | (with_reducible assumption) | assumption)
                  obtain ⟨ad383, e383, hx383_0, hx383_1, hx383_2⟩ := at_T25 HR0.out x20_4 p383 q383
                  cases e383
                  replace hx383_0 := (HB.out.cell (World.block_lt_of_cell? w _ hx383_0)).trans hx383_0
                  replace hx383_1 := (HB.out.cell (World.block_lt_of_cell? w _ hx383_1)).trans hx383_1
                  replace hx383_2 := (HB.out.cell (World.block_lt_of_cell? w _ hx383_2)).trans hx383_2
                  replace p383 := eq_true p383
                  replace q383 := eq_true q383
                  go_wp2
                  go_roundg k4
                  case measure => have := HJ4.out; have := HJ21.out; have := HJ99.out; have := HK4.out; omega
                  case rel => exact ⟨(x19_4), (wrap64 (x20_4 - 1)), (by first | rfl | (simp; done) | (simp [*]; done)), (by first | rfl | (simp; done) | (simp [*]; done)), H', ⟨by have := HJ4.out; have := HJ21.out; have := HJ99.out; have := HK4.out; omega⟩, ⟨by (with_reducible repeat (first | apply Kd.V_alloc | apply Kd.V_drewN | apply Kd.V_drew)); exact HO_14.out⟩, ⟨by (with_reducible repeat (first | refine blk_drewN ?_ _ | refine blk_drew ?_ | refine blk_alloc ?_ _)); exact BK331.out⟩, ⟨by (with_reducible repeat (first | refine blk_drewN ?_ _ | refine blk_drew ?_ | refine blk_alloc ?_ _)); exact BK345.out⟩, ⟨by repeat (first | (with_reducible first | exact HB.out | apply below_alloc | apply pw_below_drewN | apply below_drew1 | refine below_set ?_ GE331.out | refine below_set ?_ GE345.out) | exact HB.out)⟩⟩
                ·
                 rw [if_neg c115] at H
                 exact absurd H (by simp)
               ·
                rw [if_neg c114] at H
                exact absurd H (by simp)
              ·
               rw [if_neg c113] at H
               have c113b0 : decide (0 ≤ x20_4) = false := decide_eq_false c113
               clear c113
               have HC117 := Aside0.mk H
               clear H
               go_upto_region 22 with (fail)
               go_cut [220] (fun v220 wc => ∃ (kq : Nat) (x220_116 : Bool), v220 = .bool x220_116 ∧ Aside0 (samphirelaw11_HeapTells.j4 kq l0 a2 t346 t349 t358 x220_116 a1_0 a1_1 a1_2 = some r) ∧ Aside0 (kq ≤ k4) ∧ Aside0 (Kd.V k25 25 wc w.heap.size (fun k_ => k_ ≠ gb331 ∧ k_ ≠ gb345) v347 t346) ∧ Aside0 (wc.heap[gb331]? = some (.cells #[.string a1_0, .int .u64 a1_1, .int .u64 a1_2] 25 (0, 0))) ∧ Aside0 (wc.heap[gb345]? = some (.cells #[.string t338, .int .u64 t339, .int .u64 t340] 25 (0, 0))) ∧ Aside0 (Below w.heap.size w wc))
               case first =>
                as_aux_lemma =>
                have H := HC117.out
                clear HC117
                by_cases c118 : (t351 != (decide (x19_4 ≥ 0))) = true
                ·
                 rw [if_pos c118] at H
                 cases H
                ·
                 rw [if_neg c118] at H
                 have c118b0 : (t351 != (decide (x19_4 ≥ 0))) = false := by simpa using c118
                 (try (have c118b1 : decide (t351 = (decide (x19_4 ≥ 0))) = true := by simpa using c118))
                 (try (have c118b2 : (t351 == (decide (x19_4 ≥ 0))) = true := by simpa using c118))
                 clear c118
                 (first | rw [c118b0] | (simp only [i64_w, i32_w]; rw [c118b0]) | skip)
                 obtain ⟨ji119, hji119⟩ : ∃ j_ : Int, (mx x19_4 0) = j_ := ⟨_, rfl⟩
                 replace H : (samphirelaw11_HeapTells.j4 k4 l0 a2 t346 t349 t358 (t350 != (ji119)) a1_0 a1_1 a1_2) = some r := by first | (rw [hji119] at H; exact H) | (simp only [hji119] at H ⊢; exact H)
                 have hji119_ : (if x19_4 < 0 then 0 else x19_4) = ji119 := hji119
                 have H' := Aside0.mk H
                 clear H
                 go_wp2
                 go_meet
                 case rel => exact ⟨_, ((t350 != (ji119))), (by first | rfl | (simp; done) | (simp only [← hji119] <;> (first | rfl | simp)) | (simp [*]; done)), H', ⟨by have := HJ4.out; have := HJ21.out; have := HJ99.out; have := HK4.out; first | omega | exact Nat.le_refl _⟩, ⟨by (with_reducible repeat (first | apply Kd.V_alloc | apply Kd.V_drewN | apply Kd.V_drew)); exact HO_14.out⟩, ⟨by (with_reducible repeat (first | refine blk_drewN ?_ _ | refine blk_drew ?_ | refine blk_alloc ?_ _)); exact BK331.out⟩, ⟨by (with_reducible repeat (first | refine blk_drewN ?_ _ | refine blk_drew ?_ | refine blk_alloc ?_ _)); exact BK345.out⟩, ⟨by repeat (first | (with_reducible first | exact HB.out | apply below_alloc | apply pw_below_drewN | apply below_drew1 | refine below_set ?_ GE331.out | refine below_set ?_ GE345.out) | exact HB.out)⟩⟩
               case rest =>
                clear HC117
                try clear c1
                try clear p2
                try clear p3
                try clear q3
                try clear hx3
                try clear qi3
                try clear c6
                try clear p6
                try clear c10
                try clear c11
                try clear c15
                try clear c16
                try clear c19
                try clear p37
                try clear q37
                try clear hx37
                try clear qi37
                try clear p38
                try clear q38
                try clear hx38
                try clear c63
                try clear c63b0
                try clear c63b1
                try clear c63b2
                try clear p64
                try clear c65
                try clear c101
                try clear c101b0
                try clear c101b1
                try clear c102
                try clear c102b0
                try clear c104
                try clear c104b0
                try clear c104b1
                try clear c112
                try clear c113
                try clear c113b0
                try clear c114
                try clear c114b0
                try clear c115
                try clear c115b0
                try clear c116
                try clear c116b0
                try clear c116b1
                try clear c118
                try clear c118b0
                try clear c118b1
                try clear c118b2
                try clear hx378_0
                try clear hx378_1
                try clear hx378_2
                try clear hx383_0
                try clear hx383_1
                try clear hx383_2
                try clear p2
                try clear p3
                try clear p37
                try clear p378
                try clear p383
                try clear p6
                try clear p64
                try clear q3
                try clear q37
                try clear q378
                try clear q383
                obtain ⟨kq, x220_116, rfl, HA, HJ116, HO_14, BK331, BK345, HB⟩ := hcut
                cases kq with
                | zero => exact absurd HA.out (by simp [samphirelaw11_HeapTells.j4])
                | succ kj116 =>
                 have H := HA.out
                 clear HA
                 simp only [samphirelaw11_HeapTells.j4] at H
                 by_cases c120 : x220_116 = true
                 ·
                  subst c120
                  have H1 : (none) = some r := by rw [if_pos rfl] at H; exact H
                  cases H1
                 ·
                  replace c120 := Bool.eq_false_iff.mpr c120
                  subst c120
                  have H1 : (if a2 < 0 then (samphirelaw11_HeapTells.j5 kj116 l0 a2 t346 t349 t358 true a1_0 a1_1 a1_2) else (samphirelaw11_HeapTells.j5 kj116 l0 a2 t346 t349 t358 (decide (a2 ≥ (l0.length : Int))) a1_0 a1_1 a1_2)) = some r := by rw [if_neg (show ¬ (false = true) by decide)] at H; exact H
                  clear H
                  have H := H1
                  clear H1
                  have HC121 := Aside0.mk H
                  clear H
                  go_upto_region 24 with (fail)
                  go_cut [221] (fun v221 wc => ∃ (kq : Nat) (x221_120 : Bool), v221 = .bool x221_120 ∧ Aside0 (samphirelaw11_HeapTells.j5 kq l0 a2 t346 t349 t358 x221_120 a1_0 a1_1 a1_2 = some r) ∧ Aside0 (kq ≤ kj116) ∧ Aside0 (Kd.V k25 25 wc w.heap.size (fun k_ => k_ ≠ gb331 ∧ k_ ≠ gb345) v347 t346) ∧ Aside0 (wc.heap[gb331]? = some (.cells #[.string a1_0, .int .u64 a1_1, .int .u64 a1_2] 25 (0, 0))) ∧ Aside0 (wc.heap[gb345]? = some (.cells #[.string t338, .int .u64 t339, .int .u64 t340] 25 (0, 0))) ∧ Aside0 (Below w.heap.size w wc))
                  case first =>
                   as_aux_lemma =>
                   have H := HC121.out
                   clear HC121
                   by_cases c122 : a2 < 0
                   ·
                    rw [if_pos c122] at H
                    have c122b0 : decide (a2 < 0) = true := decide_eq_true c122
                    clear c122
                    (first | rw [c122b0] | (simp only [i64_w, i32_w]; rw [c122b0]) | skip)
                    have H' := Aside0.mk H
                    clear H
                    go_wp2
                    go_meet
                    case rel => exact ⟨_, (true), (by first | rfl | (simp; done) | (simp [*]; done)), H', ⟨by have := HJ4.out; have := HJ21.out; have := HJ99.out; have := HK4.out; have := HJ116.out; first | omega | exact Nat.le_refl _⟩, ⟨by (with_reducible repeat (first | apply Kd.V_alloc | apply Kd.V_drewN | apply Kd.V_drew)); exact HO_14.out⟩, ⟨by (with_reducible repeat (first | refine blk_drewN ?_ _ | refine blk_drew ?_ | refine blk_alloc ?_ _)); exact BK331.out⟩, ⟨by (with_reducible repeat (first | refine blk_drewN ?_ _ | refine blk_drew ?_ | refine blk_alloc ?_ _)); exact BK345.out⟩, ⟨by repeat (first | (with_reducible first | exact HB.out | apply below_alloc | apply pw_below_drewN | apply below_drew1 | refine below_set ?_ GE331.out | refine below_set ?_ GE345.out) | exact HB.out)⟩⟩
                   ·
                    rw [if_neg c122] at H
                    have c122b0 : decide (a2 < 0) = false := decide_eq_false c122
                    clear c122
                    (first | rw [c122b0] | (simp only [i64_w, i32_w]; rw [c122b0]) | skip)
                    have H' := Aside0.mk H
                    clear H
                    go_wp2
                    go_meet
                    case rel => exact ⟨_, (decide (a2 ≥ (l0.length : Int))), (by first | rfl | (simp; done) | (simp [*]; done)), H', ⟨by have := HJ4.out; have := HJ21.out; have := HJ99.out; have := HK4.out; have := HJ116.out; first | omega | exact Nat.le_refl _⟩, ⟨by (with_reducible repeat (first | apply Kd.V_alloc | apply Kd.V_drewN | apply Kd.V_drew)); exact HO_14.out⟩, ⟨by (with_reducible repeat (first | refine blk_drewN ?_ _ | refine blk_drew ?_ | refine blk_alloc ?_ _)); exact BK331.out⟩, ⟨by (with_reducible repeat (first | refine blk_drewN ?_ _ | refine blk_drew ?_ | refine blk_alloc ?_ _)); exact BK345.out⟩, ⟨by repeat (first | (with_reducible first | exact HB.out | apply below_alloc | apply pw_below_drewN | apply below_drew1 | refine below_set ?_ GE331.out | refine below_set ?_ GE345.out) | exact HB.out)⟩⟩
                  case rest =>
                   clear HC121
                   try clear c1
                   try clear p2
                   try clear p3
                   try clear q3
                   try clear hx3
                   try clear qi3
                   try clear c6
                   try clear p6
                   try clear c10
                   try clear c11
                   try clear c12
                   try clear c15
                   try clear c16
                   try clear c19
                   try clear p37
                   try clear q37
                   try clear hx37
                   try clear qi37
                   try clear p38
                   try clear q38
                   try clear hx38
                   try clear c63
                   try clear c63b0
                   try clear c63b1
                   try clear c63b2
                   try clear p64
                   try clear c65
                   try clear c101
                   try clear c101b0
                   try clear c101b1
                   try clear c102
                   try clear c102b0
                   try clear c104
                   try clear c104b0
                   try clear c104b1
                   try clear c112
                   try clear c113
                   try clear c113b0
                   try clear c114
                   try clear c114b0
                   try clear c115
                   try clear c115b0
                   try clear c116
                   try clear c116b0
                   try clear c116b1
                   try clear c118
                   try clear c118b0
                   try clear c118b1
                   try clear c118b2
                   try clear c120
                   try clear c122
                   try clear c122b0
                   try clear hx378_0
                   try clear hx378_1
                   try clear hx378_2
                   try clear hx383_0
                   try clear hx383_1
                   try clear hx383_2
                   try clear p2
                   try clear p3
                   try clear p37
                   try clear p378
                   try clear p38
                   try clear p383
                   try clear p6
                   try clear p64
                   try clear q3
                   try clear q37
                   try clear q378
                   try clear q38
                   try clear q383
                   obtain ⟨kq, x221_120, rfl, HA, HJ120, HO_14, BK331, BK345, HB⟩ := hcut
                   cases kq with
                   | zero => exact absurd HA.out (by simp [samphirelaw11_HeapTells.j5])
                   | succ kj120 =>
                    have H := HA.out
                    clear HA
                    simp only [samphirelaw11_HeapTells.j5] at H
                    by_cases c123 : x221_120 = true
                    ·
                     subst c123
                     have H1 : (if t349 = 3 then ((samphireref10_Same.f kj120 t346 l0).bind fun t384 => (if t384 = true then ((samphirelaw11_awake.f kj120).bind fun t385 => (some t385)) else (none))) else (none)) = some r := by rw [if_pos rfl] at H; exact H
                     clear H
                     have H := H1
                     clear H1
                     by_cases c124 : t349 = 3
                     ·
                      rw [if_pos c124] at H
                      have c124b0 : (t349 == 3) = true := beq_iff_eq.mpr c124
                      have c124b1 : (t349 != 3) = false := bne_eq_false_iff_eq.mpr c124
                      clear c124
                      replace H := Option.bind_eq_some_iff.mp H
                      obtain ⟨t384, A1250, H⟩ := H
                      replace H : (if t384 = true then ((samphirelaw11_awake.f kj120).bind fun t385 => (some t385)) else (none)) = some r := H
                      have A125 := Aside0.mk A1250
                      clear A1250
                      by_cases c126 : t384 = true
                      ·
                       subst c126
                       have H1 : ((samphirelaw11_awake.f kj120).bind fun t385 => (some t385)) = some r := by rw [if_pos rfl] at H; exact H
                       clear H
                       have H := H1
                       clear H1
                       replace H := Option.bind_eq_some_iff.mp H
                       obtain ⟨t385, A1270, H⟩ := H
                       replace H : (some t385) = some r := H
                       have A127 := Aside0.mk A1270
                       clear A1270
                       obtain rfl := Option.some.inj H
                       obtain ⟨Ao128, co128, eo128⟩ := Kd.V_slice HO_14.out
                       subst eo128
                       go_wp2_with (first | (go_at_call 16; (with_reducible refine (samphireref10_Same.calls kj120 _ _ t346 _ _ l0 true _ ?side1 ?side2 ?side3 ?side4 A125.out).mono ?_); (case side1 => repeat (first | exact (Kd.V_reads' HO_14.out).2.2 | (with_reducible refine Kd.C_alloc ?_ _) | (with_reducible refine Kd.C_drewN ?_ _) | (with_reducible refine Kd.C_drew ?_))); (case side2 => exact (Kd.V_reads' HO_14.out).2.1); (case side3 => repeat (first | exact (Kd.C_below HR0.out HB.out) | (with_reducible refine Kd.C_alloc ?_ _) | (with_reducible refine Kd.C_drewN ?_ _) | (with_reducible refine Kd.C_drew ?_))); (case side4 => exact HC0.out); rintro e w' ⟨rfl, ⟨nd, rfl⟩⟩) | (go_at_call 9; (with_reducible refine (samphirelaw11_awake.calls kj120  t385 _ A127.out).mono ?_); rintro e w129 ⟨rfl, hb⟩; have n0_ := Aside0.mk (Kd.V_below (by (with_reducible repeat (first | apply Kd.V_alloc | apply Kd.V_drewN | apply Kd.V_drew)); exact HO_14.out) hb); have n1_ := Aside0.mk (blk_below (bT BK331.out) hb); have n2_ := Aside0.mk (blk_below (bT BK345.out) hb); have n3_ := Aside0.mk (below_step (bW HB.out) hb); clear HO_14 BK331 BK345 HB; have HO_14 := n0_; have BK331 := n1_; have BK345 := n2_; have HB := n3_; clear n0_ n1_ n2_ n3_; (try clear hb); (try clear hb2); (try clear hk); (try clear hi)))
                       go_ret
                       exact ⟨by first | rfl | (simp [errW_none, errW_some] <;> rfl) | (simp [*, errW_none, errW_some] <;> rfl), by repeat (first | (with_reducible first | exact HB.out | apply below_alloc | apply pw_below_drewN | apply below_drew1 | refine below_set ?_ GE331.out | refine below_set ?_ GE345.out) | exact HB.out)⟩
                      ·
                       replace c126 := Bool.eq_false_iff.mpr c126
                       subst c126
                       have H1 : (none) = some r := by rw [if_neg (show ¬ (false = true) by decide)] at H; exact H
                       cases H1
                     ·
                      rw [if_neg c124] at H
                      have c124b0 : (t349 == 3) = false := beq_eq_false_iff_ne.mpr c124
                      have c124b1 : (t349 != 3) = true := bne_iff_ne.mpr c124
                      cases H
                    ·
                     replace c123 := Bool.eq_false_iff.mpr c123
                     subst c123
                     have H1 : (if t358 = 0 then (if t349 = 0 then ((samphireref11_Put.f kj120 l0 a2 a1_0 a1_1 a1_2).bind fun t388 => ((samphireref10_Same.f kj120 t346 t388).bind fun t391 => (if t391 = true then ((heap_Right.f kj120 l0).bind fun t392 => (if t392 = true then ((samphirelaw11_awake.f kj120).bind fun t393 => (some t393)) else (none))) else (none)))) else (none)) else (if t349 = t358 then ((samphireref10_Same.f kj120 t346 l0).bind fun t386 => (if t386 = true then ((samphirelaw11_awake.f kj120).bind fun t387 => (some t387)) else (none))) else (none))) = some r := by rw [if_neg (show ¬ (false = true) by decide)] at H; exact H
                     clear H
                     have H := H1
                     clear H1
                     by_cases c131 : t358 = 0
                     ·
                      rw [if_pos c131] at H
                      have c131b0 : (t358 == 0) = true := beq_iff_eq.mpr c131
                      have c131b1 : (t358 != 0) = false := bne_eq_false_iff_eq.mpr c131
                      clear c131
                      by_cases c132 : t349 = 0
                      ·
                       rw [if_pos c132] at H
                       have c132b0 : (t349 == 0) = true := beq_iff_eq.mpr c132
                       have c132b1 : (t349 != 0) = false := bne_eq_false_iff_eq.mpr c132
                       clear c132
                       replace H := Option.bind_eq_some_iff.mp H
                       obtain ⟨t388, A1330, H⟩ := H
                       replace H : ((samphireref10_Same.f kj120 t346 t388).bind fun t391 => (if t391 = true then ((heap_Right.f kj120 l0).bind fun t392 => (if t392 = true then ((samphirelaw11_awake.f kj120).bind fun t393 => (some t393)) else (none))) else (none))) = some r := H
                       have A133 := Aside0.mk A1330
                       clear A1330
                       replace H := Option.bind_eq_some_iff.mp H
                       obtain ⟨t391, A1340, H⟩ := H
                       replace H : (if t391 = true then ((heap_Right.f kj120 l0).bind fun t392 => (if t392 = true then ((samphirelaw11_awake.f kj120).bind fun t393 => (some t393)) else (none))) else (none)) = some r := H
                       have A134 := Aside0.mk A1340
                       clear A1340
                       by_cases c135 : t391 = true
                       ·
                        subst c135
                        have H1 : ((heap_Right.f kj120 l0).bind fun t392 => (if t392 = true then ((samphirelaw11_awake.f kj120).bind fun t393 => (some t393)) else (none))) = some r := by rw [if_pos rfl] at H; exact H
                        clear H
                        have H := H1
                        clear H1
                        replace H := Option.bind_eq_some_iff.mp H
                        obtain ⟨t392, A1360, H⟩ := H
                        replace H : (if t392 = true then ((samphirelaw11_awake.f kj120).bind fun t393 => (some t393)) else (none)) = some r := H
                        have A136 := Aside0.mk A1360
                        clear A1360
                        by_cases c137 : t392 = true
                        ·
                         subst c137
                         have H1 : ((samphirelaw11_awake.f kj120).bind fun t393 => (some t393)) = some r := by rw [if_pos rfl] at H; exact H
                         clear H
                         have H := H1
                         clear H1
                         replace H := Option.bind_eq_some_iff.mp H
                         obtain ⟨t393, A1380, H⟩ := H
                         replace H : (some t393) = some r := H
                         have A138 := Aside0.mk A1380
                         clear A1380
                         obtain rfl := Option.some.inj H
                         have hnb139 := NB331_345.out
                         have hnc139 := NB345_331.out
                         have hcz140_0 : wc.cell? ⟨gb331, 0, none⟩ = some (.string a1_0) := (blk_cell BK331.out 0).trans rfl
                         have hcz140_1 : wc.cell? ⟨gb331, 1, none⟩ = some (.int .u64 a1_1) := (blk_cell BK331.out 1).trans rfl
                         have hcz140_2 : wc.cell? ⟨gb331, 2, none⟩ = some (.int .u64 a1_2) := (blk_cell BK331.out 2).trans rfl
                         have hfz140_0 := blk_frozen BK331.out 0
                         have hfz140_1 := blk_frozen BK331.out 1
                         have hfz140_2 := blk_frozen BK331.out 2
                         go_wp2_with (first | (go_at_call 20; (with_reducible refine (samphireref11_Put.calls kj120 _ _ l0 a2 a1_0 a1_1 a1_2 t388 _ ?side1 ?side2 A133.out).mono ?_); (case side1 => repeat (first | exact (Kd.C_below HR0.out HB.out) | (with_reducible refine Kd.C_alloc ?_ _) | (with_reducible refine Kd.C_drewN ?_ _) | (with_reducible refine Kd.C_drew ?_))); (case side2 => exact HC0.out); rintro e w141 ⟨v389, rfl, ho0, hb⟩; have n0_ := Aside0.mk (Kd.V_below (by (with_reducible repeat (first | apply Kd.V_alloc | apply Kd.V_drewN | apply Kd.V_drew)); exact HO_14.out) hb); have n1_ := Aside0.mk (Kd.V_lower (Kd.V_mono (ok' := fun k_ => k_ ≠ gb331 ∧ k_ ≠ gb345) ho0 (fun k_ hk_ => ⟨(Kd.freshB (bT BK331.out) k_ hk_), (Kd.freshB (bT BK345.out) k_ hk_)⟩)) (below_size (bW HB.out))); have n2_ := Aside0.mk (blk_below (bT BK331.out) hb); have n3_ := Aside0.mk (blk_below (bT BK345.out) hb); have n4_ := Aside0.mk (below_step (bW HB.out) hb); clear HO_14 BK331 BK345 HB; have HO_14 := n0_; have HO390 := n1_; have BK331 := n2_; have BK345 := n3_; have HB := n4_; clear n0_ n1_ n2_ n3_ n4_; (try clear hb); (try clear hb2); (try clear hk); (try clear hi); (try clear ho0); obtain ⟨Ao142, co142, eo142⟩ := Kd.V_slice HO_14.out; subst eo142; obtain ⟨Ao143, co143, eo143⟩ := Kd.V_slice HO390.out; subst eo143) | (go_at_call 16; (with_reducible refine (samphireref10_Same.calls kj120 _ _ t346 _ _ t388 true _ ?side1 ?side2 ?side3 ?side4 A134.out).mono ?_); (case side1 => repeat (first | exact (Kd.V_reads' HO_14.out).2.2 | (with_reducible refine Kd.C_alloc ?_ _) | (with_reducible refine Kd.C_drewN ?_ _) | (with_reducible refine Kd.C_drew ?_))); (case side2 => exact (Kd.V_reads' HO_14.out).2.1); (case side3 => repeat (first | exact (Kd.V_reads' HO390.out).2.2 | (with_reducible refine Kd.C_alloc ?_ _) | (with_reducible refine Kd.C_drewN ?_ _) | (with_reducible refine Kd.C_drew ?_))); (case side4 => exact (Kd.V_reads' HO390.out).2.1); rintro e w' ⟨rfl, ⟨nd, rfl⟩⟩) | (go_at_call 15; (with_reducible refine (heap_Right.calls kj120 _ _ l0 true _ ?side1 ?side2 A136.out).mono ?_); (case side1 => repeat (first | exact (Kd.C_below HR0.out (bW HB.out)) | (with_reducible refine Kd.C_alloc ?_ _) | (with_reducible refine Kd.C_drewN ?_ _) | (with_reducible refine Kd.C_drew ?_))); (case side2 => exact HC0.out); rintro e w144 ⟨rfl, hb⟩; have n0_ := Aside0.mk (Kd.V_below (by (with_reducible repeat (first | apply Kd.V_alloc | apply Kd.V_drewN | apply Kd.V_drew)); exact HO_14.out) hb); have n1_ := Aside0.mk (Kd.V_below (by (with_reducible repeat (first | apply Kd.V_alloc | apply Kd.V_drewN | apply Kd.V_drew)); exact HO390.out) hb); have n2_ := Aside0.mk (blk_below (bT BK331.out) hb); have n3_ := Aside0.mk (blk_below (bT BK345.out) hb); have n4_ := Aside0.mk (below_step (bW HB.out) hb); clear HO_14 HO390 BK331 BK345 HB; have HO_14 := n0_; have HO390 := n1_; have BK331 := n2_; have BK345 := n3_; have HB := n4_; clear n0_ n1_ n2_ n3_ n4_; (try clear hb); (try clear hb2); (try clear hk); (try clear hi)) | (go_at_call 9; (with_reducible refine (samphirelaw11_awake.calls kj120  t393 _ A138.out).mono ?_); rintro e w145 ⟨rfl, hb⟩; have n0_ := Aside0.mk (Kd.V_below (by (with_reducible repeat (first | apply Kd.V_alloc | apply Kd.V_drewN | apply Kd.V_drew)); exact HO_14.out) hb); have n1_ := Aside0.mk (Kd.V_below (by (with_reducible repeat (first | apply Kd.V_alloc | apply Kd.V_drewN | apply Kd.V_drew)); exact HO390.out) hb); have n2_ := Aside0.mk (blk_below (bT BK331.out) hb); have n3_ := Aside0.mk (blk_below (bT BK345.out) hb); have n4_ := Aside0.mk (below_step (bW HB.out) hb); clear HO_14 HO390 BK331 BK345 HB; have HO_14 := n0_; have HO390 := n1_; have BK331 := n2_; have BK345 := n3_; have HB := n4_; clear n0_ n1_ n2_ n3_ n4_; (try clear hb); (try clear hb2); (try clear hk); (try clear hi)))
                         go_ret
                         exact ⟨by first | rfl | (simp [errW_none, errW_some] <;> rfl) | (simp [*, errW_none, errW_some] <;> rfl), by repeat (first | (with_reducible first | exact HB.out | apply below_alloc | apply pw_below_drewN | apply below_drew1 | refine below_set ?_ GE331.out | refine below_set ?_ GE345.out) | exact HB.out)⟩
                        ·
                         replace c137 := Bool.eq_false_iff.mpr c137
                         subst c137
                         have H1 : (none) = some r := by rw [if_neg (show ¬ (false = true) by decide)] at H; exact H
                         cases H1
                       ·
                        replace c135 := Bool.eq_false_iff.mpr c135
                        subst c135
                        have H1 : (none) = some r := by rw [if_neg (show ¬ (false = true) by decide)] at H; exact H
                        cases H1
                      ·
                       rw [if_neg c132] at H
                       have c132b0 : (t349 == 0) = false := beq_eq_false_iff_ne.mpr c132
                       have c132b1 : (t349 != 0) = true := bne_iff_ne.mpr c132
                       cases H
                     ·
                      rw [if_neg c131] at H
                      have c131b0 : (t358 == 0) = false := beq_eq_false_iff_ne.mpr c131
                      have c131b1 : (t358 != 0) = true := bne_iff_ne.mpr c131
                      by_cases c157 : t349 = t358
                      ·
                       rw [if_pos c157] at H
                       have c157b0 : (t349 == t358) = true := beq_iff_eq.mpr c157
                       have c157b1 : (t349 != t358) = false := bne_eq_false_iff_eq.mpr c157
                       clear c157
                       replace H := Option.bind_eq_some_iff.mp H
                       obtain ⟨t386, A1580, H⟩ := H
                       replace H : (if t386 = true then ((samphirelaw11_awake.f kj120).bind fun t387 => (some t387)) else (none)) = some r := H
                       have A158 := Aside0.mk A1580
                       clear A1580
                       by_cases c159 : t386 = true
                       ·
                        subst c159
                        have H1 : ((samphirelaw11_awake.f kj120).bind fun t387 => (some t387)) = some r := by rw [if_pos rfl] at H; exact H
                        clear H
                        have H := H1
                        clear H1
                        replace H := Option.bind_eq_some_iff.mp H
                        obtain ⟨t387, A1600, H⟩ := H
                        replace H : (some t387) = some r := H
                        have A160 := Aside0.mk A1600
                        clear A1600
                        obtain rfl := Option.some.inj H
                        obtain ⟨Ao161, co161, eo161⟩ := Kd.V_slice HO_14.out
                        subst eo161
                        go_wp2_with (first | (go_at_call 16; (with_reducible refine (samphireref10_Same.calls kj120 _ _ t346 _ _ l0 true _ ?side1 ?side2 ?side3 ?side4 A158.out).mono ?_); (case side1 => repeat (first | exact (Kd.V_reads' HO_14.out).2.2 | (with_reducible refine Kd.C_alloc ?_ _) | (with_reducible refine Kd.C_drewN ?_ _) | (with_reducible refine Kd.C_drew ?_))); (case side2 => exact (Kd.V_reads' HO_14.out).2.1); (case side3 => repeat (first | exact (Kd.C_below HR0.out HB.out) | (with_reducible refine Kd.C_alloc ?_ _) | (with_reducible refine Kd.C_drewN ?_ _) | (with_reducible refine Kd.C_drew ?_))); (case side4 => exact HC0.out); rintro e w' ⟨rfl, ⟨nd, rfl⟩⟩) | (go_at_call 9; (with_reducible refine (samphirelaw11_awake.calls kj120  t387 _ A160.out).mono ?_); rintro e w162 ⟨rfl, hb⟩; have n0_ := Aside0.mk (Kd.V_below (by (with_reducible repeat (first | apply Kd.V_alloc | apply Kd.V_drewN | apply Kd.V_drew)); exact HO_14.out) hb); have n1_ := Aside0.mk (blk_below (bT BK331.out) hb); have n2_ := Aside0.mk (blk_below (bT BK345.out) hb); have n3_ := Aside0.mk (below_step (bW HB.out) hb); clear HO_14 BK331 BK345 HB; have HO_14 := n0_; have BK331 := n1_; have BK345 := n2_; have HB := n3_; clear n0_ n1_ n2_ n3_; (try clear hb); (try clear hb2); (try clear hk); (try clear hi)))
                        go_ret
                        exact ⟨by first | rfl | (simp [errW_none, errW_some] <;> rfl) | (simp [*, errW_none, errW_some] <;> rfl), by repeat (first | (with_reducible first | exact HB.out | apply below_alloc | apply pw_below_drewN | apply below_drew1 | refine below_set ?_ GE331.out | refine below_set ?_ GE345.out) | exact HB.out)⟩
                       ·
                        replace c159 := Bool.eq_false_iff.mpr c159
                        subst c159
                        have H1 : (none) = some r := by rw [if_neg (show ¬ (false = true) by decide)] at H; exact H
                        cases H1
                      ·
                       rw [if_neg c157] at H
                       have c157b0 : (t349 == t358) = false := beq_eq_false_iff_ne.mpr c157
                       have c157b1 : (t349 != t358) = true := bne_iff_ne.mpr c157
                       cases H
    ·
     replace c20 := Bool.eq_false_iff.mpr c20
     subst c20
     have H1 : ((heap_Right.f kj4 l0).bind fun t353 => (if t353 = true then (none) else (if t337 = 1 then (if t344 = 1 then (if t349 = 1 then ((samphireref10_Same.f kj4 t334 l0).bind fun t354 => (if t354 = true then ((samphireref10_Same.f kj4 t341 l0).bind fun t355 => (if t355 = true then ((samphireref10_Same.f kj4 t346 l0).bind fun t356 => (if t356 = true then (if (t338.toList == ([] : List UInt8) && (t339 == 0 && (t340 == 0))) = true then (if t350 = 0 then (if t351 = true then (none) else ((samphirelaw11_awake.f kj4).bind fun t357 => (some t357))) else (none)) else (none)) else (none))) else (none))) else (none))) else (none)) else (none)) else (none)))) = some r := by rw [if_neg (show ¬ (false = true) by decide)] at H; exact H
     clear H
     have H := H1
     clear H1
     replace H := Option.bind_eq_some_iff.mp H
     obtain ⟨t353, A1640, H⟩ := H
     replace H : (if t353 = true then (none) else (if t337 = 1 then (if t344 = 1 then (if t349 = 1 then ((samphireref10_Same.f kj4 t334 l0).bind fun t354 => (if t354 = true then ((samphireref10_Same.f kj4 t341 l0).bind fun t355 => (if t355 = true then ((samphireref10_Same.f kj4 t346 l0).bind fun t356 => (if t356 = true then (if (t338.toList == ([] : List UInt8) && (t339 == 0 && (t340 == 0))) = true then (if t350 = 0 then (if t351 = true then (none) else ((samphirelaw11_awake.f kj4).bind fun t357 => (some t357))) else (none)) else (none)) else (none))) else (none))) else (none))) else (none)) else (none)) else (none))) = some r := H
     have A164 := Aside0.mk A1640
     clear A1640
     by_cases c165 : t353 = true
     ·
      subst c165
      have H1 : (none) = some r := by rw [if_pos rfl] at H; exact H
      cases H1
     ·
      replace c165 := Bool.eq_false_iff.mpr c165
      subst c165
      have H1 : (if t337 = 1 then (if t344 = 1 then (if t349 = 1 then ((samphireref10_Same.f kj4 t334 l0).bind fun t354 => (if t354 = true then ((samphireref10_Same.f kj4 t341 l0).bind fun t355 => (if t355 = true then ((samphireref10_Same.f kj4 t346 l0).bind fun t356 => (if t356 = true then (if (t338.toList == ([] : List UInt8) && (t339 == 0 && (t340 == 0))) = true then (if t350 = 0 then (if t351 = true then (none) else ((samphirelaw11_awake.f kj4).bind fun t357 => (some t357))) else (none)) else (none)) else (none))) else (none))) else (none))) else (none)) else (none)) else (none)) = some r := by rw [if_neg (show ¬ (false = true) by decide)] at H; exact H
      clear H
      have H := H1
      clear H1
      by_cases c178 : t337 = 1
      ·
       rw [if_pos c178] at H
       have c178b0 : (t337 == 1) = true := beq_iff_eq.mpr c178
       have c178b1 : (t337 != 1) = false := bne_eq_false_iff_eq.mpr c178
       clear c178
       by_cases c179 : t344 = 1
       ·
        rw [if_pos c179] at H
        have c179b0 : (t344 == 1) = true := beq_iff_eq.mpr c179
        have c179b1 : (t344 != 1) = false := bne_eq_false_iff_eq.mpr c179
        clear c179
        by_cases c180 : t349 = 1
        ·
         rw [if_pos c180] at H
         have c180b0 : (t349 == 1) = true := beq_iff_eq.mpr c180
         have c180b1 : (t349 != 1) = false := bne_eq_false_iff_eq.mpr c180
         clear c180
         replace H := Option.bind_eq_some_iff.mp H
         obtain ⟨t354, A1810, H⟩ := H
         replace H : (if t354 = true then ((samphireref10_Same.f kj4 t341 l0).bind fun t355 => (if t355 = true then ((samphireref10_Same.f kj4 t346 l0).bind fun t356 => (if t356 = true then (if (t338.toList == ([] : List UInt8) && (t339 == 0 && (t340 == 0))) = true then (if t350 = 0 then (if t351 = true then (none) else ((samphirelaw11_awake.f kj4).bind fun t357 => (some t357))) else (none)) else (none)) else (none))) else (none))) else (none)) = some r := H
         have A181 := Aside0.mk A1810
         clear A1810
         by_cases c182 : t354 = true
         ·
          subst c182
          have H1 : ((samphireref10_Same.f kj4 t341 l0).bind fun t355 => (if t355 = true then ((samphireref10_Same.f kj4 t346 l0).bind fun t356 => (if t356 = true then (if (t338.toList == ([] : List UInt8) && (t339 == 0 && (t340 == 0))) = true then (if t350 = 0 then (if t351 = true then (none) else ((samphirelaw11_awake.f kj4).bind fun t357 => (some t357))) else (none)) else (none)) else (none))) else (none))) = some r := by rw [if_pos rfl] at H; exact H
          clear H
          have H := H1
          clear H1
          replace H := Option.bind_eq_some_iff.mp H
          obtain ⟨t355, A1830, H⟩ := H
          replace H : (if t355 = true then ((samphireref10_Same.f kj4 t346 l0).bind fun t356 => (if t356 = true then (if (t338.toList == ([] : List UInt8) && (t339 == 0 && (t340 == 0))) = true then (if t350 = 0 then (if t351 = true then (none) else ((samphirelaw11_awake.f kj4).bind fun t357 => (some t357))) else (none)) else (none)) else (none))) else (none)) = some r := H
          have A183 := Aside0.mk A1830
          clear A1830
          by_cases c184 : t355 = true
          ·
           subst c184
           have H1 : ((samphireref10_Same.f kj4 t346 l0).bind fun t356 => (if t356 = true then (if (t338.toList == ([] : List UInt8) && (t339 == 0 && (t340 == 0))) = true then (if t350 = 0 then (if t351 = true then (none) else ((samphirelaw11_awake.f kj4).bind fun t357 => (some t357))) else (none)) else (none)) else (none))) = some r := by rw [if_pos rfl] at H; exact H
           clear H
           have H := H1
           clear H1
           replace H := Option.bind_eq_some_iff.mp H
           obtain ⟨t356, A1850, H⟩ := H
           replace H : (if t356 = true then (if (t338.toList == ([] : List UInt8) && (t339 == 0 && (t340 == 0))) = true then (if t350 = 0 then (if t351 = true then (none) else ((samphirelaw11_awake.f kj4).bind fun t357 => (some t357))) else (none)) else (none)) else (none)) = some r := H
           have A185 := Aside0.mk A1850
           clear A1850
           by_cases c186 : t356 = true
           ·
            subst c186
            have H1 : (if (t338.toList == ([] : List UInt8) && (t339 == 0 && (t340 == 0))) = true then (if t350 = 0 then (if t351 = true then (none) else ((samphirelaw11_awake.f kj4).bind fun t357 => (some t357))) else (none)) else (none)) = some r := by rw [if_pos rfl] at H; exact H
            clear H
            have H := H1
            clear H1
            by_cases c187 : (t338.toList == ([] : List UInt8) && (t339 == 0 && (t340 == 0))) = true
            ·
             rw [if_pos c187] at H
             have c187b0 : (t338.toList == ([] : List UInt8) && (t339 == 0 && (t340 == 0))) = true := c187
             (try (have c187b1 : decide (t338.toList = ([] : List UInt8) && (t339 == 0 && (t340 == 0))) = true := by simpa using c187))
             (try (have c187b2 : (t338.toList == ([] : List UInt8) && (t339 == 0 && (t340 == 0))) = true := by simpa using c187))
             clear c187
             by_cases c188 : t350 = 0
             ·
              rw [if_pos c188] at H
              have c188b0 : (t350 == 0) = true := beq_iff_eq.mpr c188
              have c188b1 : (t350 != 0) = false := bne_eq_false_iff_eq.mpr c188
              clear c188
              by_cases c189 : t351 = true
              ·
               subst c189
               have H1 : (none) = some r := by rw [if_pos rfl] at H; exact H
               cases H1
              ·
               replace c189 := Bool.eq_false_iff.mpr c189
               subst c189
               have H1 : ((samphirelaw11_awake.f kj4).bind fun t357 => (some t357)) = some r := by rw [if_neg (show ¬ (false = true) by decide)] at H; exact H
               clear H
               have H := H1
               clear H1
               replace H := Option.bind_eq_some_iff.mp H
               obtain ⟨t357, A2060, H⟩ := H
               replace H : (some t357) = some r := H
               have A206 := Aside0.mk A2060
               clear A2060
               obtain rfl := Option.some.inj H
               have hcz207_0 : wc.cell? ⟨gb331, 0, none⟩ = some (.string a1_0) := (blk_cell BK331.out 0).trans rfl
               have hcz207_1 : wc.cell? ⟨gb331, 1, none⟩ = some (.int .u64 a1_1) := (blk_cell BK331.out 1).trans rfl
               have hcz207_2 : wc.cell? ⟨gb331, 2, none⟩ = some (.int .u64 a1_2) := (blk_cell BK331.out 2).trans rfl
               have hfz207_0 := blk_frozen BK331.out 0
               have hfz207_1 := blk_frozen BK331.out 1
               have hfz207_2 := blk_frozen BK331.out 2
               go_wp2_with (first | ((with_reducible refine gate_callee (f := 10) rfl ?_); refine goesL_ (some 39) rfl rfl Try.func10 (by kernel_rfl) rfl #[.slice A0 l0.length c0, .agg #[.string a1_0, .int .u64 a1_1, .int .u64 a1_2]] rfl (by (try simp only [List.map_toArray, List.map_cons, List.map_nil]); first | done | rfl | (simp only [List.length_drop, List.length_take]; rfl)) ?_; (with_reducible refine (heap_Push.calls kj4 (fun k_ => k_ < w.heap.size) _ _ l0 a1_0 a1_1 a1_2 t334 t337 _ ?side1 A15.out).mono ?_); (case side1 => exact Kd.V_mk HC0.out (Kd.F_below (Kd.C_F k25_heap HR0.out) (bW HB.out))); rintro e w208 ⟨v335, rfl, ho0, hb⟩; refine ⟨_, rfl, ?_⟩; have n0_ := Aside0.mk (Kd.V_lower (Kd.V_mono (ok' := fun k_ => k_ ≠ gb331) ho0 (fun k_ hk_ => Or.elim hk_ (fun hs_ => fun e_ => Nat.not_le.2 hs_ (by rw [e_]; exact GW331.out)) (fun hn_ => (Kd.freshB (bT BK331.out) k_ hn_)))) (below_size (bW HB.out))); have n1_ := Aside0.mk (blk_below (bT BK331.out) hb); have n2_ := Aside0.mk (below_step (bW HB.out) hb); clear BK331 HB; have HO336 := n0_; have BK331 := n1_; have HB := n2_; clear n0_ n1_ n2_; (try clear hb); (try clear hb2); (try clear hk); (try clear hi); (try clear ho0)) | ((with_reducible refine gate_callee (f := 11) rfl ?_); refine goesL_ (some 44) rfl rfl Try.func11 (by kernel_rfl) rfl #[.slice A0 l0.length c0] rfl (by (try simp only [List.map_toArray, List.map_cons, List.map_nil]); first | done | rfl | (simp only [List.length_drop, List.length_take]; rfl)) ?_; (with_reducible refine (heap_Pop.calls kj4 (fun k_ => k_ < w.heap.size) _ _ l0 t338 t339 t340 t341 t344 _ ?side1 A16.out).mono ?_); (case side1 => exact Kd.V_mk HC0.out (Kd.F_below (Kd.C_F k25_heap HR0.out) (bW HB.out))); rintro e w209 ⟨v342, rfl, ho0, hb⟩; refine ⟨_, rfl, ?_⟩; have n0_ := Aside0.mk (Kd.V_below (by (with_reducible repeat (first | apply Kd.V_alloc | apply Kd.V_drewN | apply Kd.V_drew)); exact HO336.out) hb); have n1_ := Aside0.mk (Kd.V_lower (Kd.V_mono (ok' := fun k_ => k_ ≠ gb331) ho0 (fun k_ hk_ => Or.elim hk_ (fun hs_ => fun e_ => Nat.not_le.2 hs_ (by rw [e_]; exact GW331.out)) (fun hn_ => (Kd.freshB (bT BK331.out) k_ hn_)))) (below_size (bW HB.out))); have n2_ := Aside0.mk (blk_below (bT BK331.out) hb); have n3_ := Aside0.mk (below_step (bW HB.out) hb); clear HO336 BK331 HB; have HO336 := n0_; have HO343 := n1_; have BK331 := n2_; have HB := n3_; clear n0_ n1_ n2_ n3_; (try clear hb); (try clear hb2); (try clear hk); (try clear hi); (try clear ho0)) | ((with_reducible refine gate_dst (N := 11) rfl ?_); (try (refine gate_guard (by rfl) ?_; dsimp only)); refine box_event ?hg (N := 11) ?hd (cs := #[.string (⟨#[]⟩ : ByteArray), .int .u64 0, .int .u64 0]) (t := 25) ?hr ?_; (case hd => rfl); (case hg => rfl); (case hr => first | (go_simp; done) | (go_simp; rfl)); intro gb345 hg w210 hbox hb; have n0_ := Aside0.mk (Kd.V_below (Kd.V_elderB (by (with_reducible repeat (first | apply Kd.V_alloc | apply Kd.V_drewN | apply Kd.V_drew)); exact HO336.out) gb345 (Nat.le_of_eq hg.symm)) hb); have n1_ := Aside0.mk (Kd.V_below (Kd.V_elderB (by (with_reducible repeat (first | apply Kd.V_alloc | apply Kd.V_drewN | apply Kd.V_drew)); exact HO343.out) gb345 (Nat.le_of_eq hg.symm)) hb); have n2_ := Aside0.mk (blk_below (bT BK331.out) hb); have n3_ := Aside0.mk (below_step (bW HB.out) hb); have n4_ := Aside0.mk (hbox); have n5_ := Aside0.mk ((by rw [hg]; exact (below_size (bW HB.out)) : w.heap.size ≤ gb345)); have n6_ := Aside0.mk ((by rw [hg]; exact (below_size (bW HB.out)) : w.heap.size ≤ gb345)); have n7_ := Aside0.mk ((by rw [hg]; exact Nat.ne_of_lt (blk_lt (bT BK331.out)) : gb331 ≠ gb345)); have n8_ := Aside0.mk ((by rw [hg]; exact Nat.ne_of_gt (blk_lt (bT BK331.out)) : gb345 ≠ gb331)); clear HO336 HO343 BK331 HB; have HO336 := n0_; have HO343 := n1_; have BK331 := n2_; have HB := n3_; have BK345 := n4_; have GW345 := n5_; have GE345 := n6_; have NB331_345 := n7_; have NB345_331 := n8_; clear n0_ n1_ n2_ n3_ n4_ n5_ n6_ n7_ n8_ hb hbox hg; have hnb211 := NB345_331.out; have hnc211 := NB331_345.out; have hcz212_0 : w210.cell? ⟨gb345, 0, none⟩ = some (.string (⟨#[]⟩ : ByteArray)) := (blk_cell BK345.out 0).trans rfl; have hcz212_1 : w210.cell? ⟨gb345, 1, none⟩ = some (.int .u64 0) := (blk_cell BK345.out 1).trans rfl; have hcz212_2 : w210.cell? ⟨gb345, 2, none⟩ = some (.int .u64 0) := (blk_cell BK345.out 2).trans rfl; have hfz212_0 := blk_frozen BK345.out 0; have hfz212_1 := blk_frozen BK345.out 1; have hfz212_2 := blk_frozen BK345.out 2) | ((with_reducible refine gate_store (t := 25) (p := 11) rfl ?_); refine store_event (t := 25) (p := 11) (v := ?vo_w213) (w1 := (((w210.setCell ⟨gb345, 0, none⟩ (.string t338)).setCell ⟨gb345, 1, none⟩ (.int .u64 t339)).setCell ⟨gb345, 2, none⟩ (.int .u64 t340))) ?hg ?ho ?hn ?hr ?_; (case ho => rfl); (case hg => rfl); (case hn => rfl); (case hr => first | (go_simp; done) | (go_simp; rfl)); intro w213 hw; have n0_ : Aside0 (Kd.V k25 25 w213 w.heap.size (fun k_ => k_ ≠ gb331 ∧ k_ ≠ gb345) v335 t334) := ⟨(by rw [hw]; exact (by (with_reducible repeat (first | apply Kd.V_alloc | apply Kd.V_drewN | apply Kd.V_drew)); exact Kd.V_mono (Kd.V_far (p := ⟨gb345, 2, none⟩) (Kd.V_far (p := ⟨gb345, 1, none⟩) (Kd.V_far (p := ⟨gb345, 0, none⟩) (Kd.V_mono HO336.out (fun k_ hk => (⟨hk, hk.2⟩ : _ ∧ k_ ≠ gb345))) (fun _ hk => hk.2) (.string t338)) (fun _ hk => hk.2) (.int .u64 t339)) (fun _ hk => hk.2) (.int .u64 t340)) (fun _ hk => ⟨hk.1.1, hk.1.2⟩)))⟩; have n1_ : Aside0 (Kd.V k25 25 w213 w.heap.size (fun k_ => k_ ≠ gb331 ∧ k_ ≠ gb345) v342 t341) := ⟨(by rw [hw]; exact (by (with_reducible repeat (first | apply Kd.V_alloc | apply Kd.V_drewN | apply Kd.V_drew)); exact Kd.V_mono (Kd.V_far (p := ⟨gb345, 2, none⟩) (Kd.V_far (p := ⟨gb345, 1, none⟩) (Kd.V_far (p := ⟨gb345, 0, none⟩) (Kd.V_mono HO343.out (fun k_ hk => (⟨hk, hk.2⟩ : _ ∧ k_ ≠ gb345))) (fun _ hk => hk.2) (.string t338)) (fun _ hk => hk.2) (.int .u64 t339)) (fun _ hk => hk.2) (.int .u64 t340)) (fun _ hk => ⟨hk.1.1, hk.1.2⟩)))⟩; have n2_ : Aside0 (w213.heap[gb331]? = some (.cells #[.string a1_0, .int .u64 a1_1, .int .u64 a1_2] 25 (0, 0))) := ⟨(by rw [hw]; exact (by (with_reducible repeat (first | refine blk_drewN ?_ _ | refine blk_drew ?_ | refine blk_alloc ?_ _)); refine blk_far ?_ NB331_345.out _; (with_reducible repeat (first | refine blk_drewN ?_ _ | refine blk_drew ?_ | refine blk_alloc ?_ _)); refine blk_far ?_ NB331_345.out _; (with_reducible repeat (first | refine blk_drewN ?_ _ | refine blk_drew ?_ | refine blk_alloc ?_ _)); refine blk_far ?_ NB331_345.out _; (with_reducible repeat (first | refine blk_drewN ?_ _ | refine blk_drew ?_ | refine blk_alloc ?_ _)); exact BK331.out))⟩; have n3_ : Aside0 (w213.heap[gb345]? = some (.cells #[.string t338, .int .u64 t339, .int .u64 t340] 25 (0, 0))) := ⟨(by rw [hw]; exact (by (with_reducible repeat (first | refine blk_drewN ?_ _ | refine blk_drew ?_ | refine blk_alloc ?_ _)); refine blk_put (cs := #[.string t338, .int .u64 t339, .int .u64 0]) ?_ 2 _ rfl; (with_reducible repeat (first | refine blk_drewN ?_ _ | refine blk_drew ?_ | refine blk_alloc ?_ _)); refine blk_put (cs := #[.string t338, .int .u64 0, .int .u64 0]) ?_ 1 _ rfl; (with_reducible repeat (first | refine blk_drewN ?_ _ | refine blk_drew ?_ | refine blk_alloc ?_ _)); refine blk_put (cs := #[.string (⟨#[]⟩ : ByteArray), .int .u64 0, .int .u64 0]) ?_ 0 _ rfl; (with_reducible repeat (first | refine blk_drewN ?_ _ | refine blk_drew ?_ | refine blk_alloc ?_ _)); exact BK345.out))⟩; have n4_ : Aside0 (Below w.heap.size w w213) := ⟨(by rw [hw]; exact (bW HB.out))⟩; clear hw HO336 HO343 BK331 BK345 HB; have HO336 := n0_; have HO343 := n1_; have BK331 := n2_; have BK345 := n3_; have HB := n4_; clear n0_ n1_ n2_ n3_ n4_; have hcz214_0 : w213.cell? ⟨gb331, 0, none⟩ = some (.string a1_0) := (blk_cell BK331.out 0).trans rfl; have hcz214_1 : w213.cell? ⟨gb331, 1, none⟩ = some (.int .u64 a1_1) := (blk_cell BK331.out 1).trans rfl; have hcz214_2 : w213.cell? ⟨gb331, 2, none⟩ = some (.int .u64 a1_2) := (blk_cell BK331.out 2).trans rfl; have hfz214_0 := blk_frozen BK331.out 0; have hfz214_1 := blk_frozen BK331.out 1; have hfz214_2 := blk_frozen BK331.out 2) | ((with_reducible refine gate_callee (f := 12) rfl ?_); refine goesL_ (some 52) rfl rfl Try.func12 (by kernel_rfl) rfl #[.slice A0 l0.length c0, .int .i64 a2, .agg #[.string a1_0, .int .u64 a1_1, .int .u64 a1_2]] rfl (by (try simp only [List.map_toArray, List.map_cons, List.map_nil]); first | done | rfl | (simp only [List.length_drop, List.length_take]; rfl)) ?_; (with_reducible refine (heap_Put.calls kj4 (fun k_ => k_ < w.heap.size) _ _ l0 a2 a1_0 a1_1 a1_2 t346 t349 _ ?side1 A17.out).mono ?_); (case side1 => exact Kd.V_mk HC0.out (Kd.F_below (Kd.C_F k25_heap HR0.out) (bW HB.out))); rintro e w215 ⟨v347, rfl, ho0, hb⟩; refine ⟨_, rfl, ?_⟩; have n0_ := Aside0.mk (Kd.V_below (by (with_reducible repeat (first | apply Kd.V_alloc | apply Kd.V_drewN | apply Kd.V_drew)); exact HO336.out) hb); have n1_ := Aside0.mk (Kd.V_below (by (with_reducible repeat (first | apply Kd.V_alloc | apply Kd.V_drewN | apply Kd.V_drew)); exact HO343.out) hb); have n2_ := Aside0.mk (Kd.V_lower (Kd.V_mono (ok' := fun k_ => k_ ≠ gb331 ∧ k_ ≠ gb345) ho0 (fun k_ hk_ => ⟨Or.elim hk_ (fun hs_ => fun e_ => Nat.not_le.2 hs_ (by rw [e_]; exact GW331.out)) (fun hn_ => (Kd.freshB (bT BK331.out) k_ hn_)), Or.elim hk_ (fun hs_ => fun e_ => Nat.not_le.2 hs_ (by rw [e_]; exact GW345.out)) (fun hn_ => (Kd.freshB (bT BK345.out) k_ hn_))⟩)) (below_size (bW HB.out))); have n3_ := Aside0.mk (blk_below (bT BK331.out) hb); have n4_ := Aside0.mk (blk_below (bT BK345.out) hb); have n5_ := Aside0.mk (below_step (bW HB.out) hb); clear HO336 HO343 BK331 BK345 HB; have HO336 := n0_; have HO343 := n1_; have HO348 := n2_; have BK331 := n3_; have BK345 := n4_; have HB := n5_; clear n0_ n1_ n2_ n3_ n4_ n5_; (try clear hb); (try clear hb2); (try clear hk); (try clear hi); (try clear ho0)) | ((with_reducible refine gate_callee (f := 13) rfl ?_); refine goesL_ (some 58) rfl rfl Try.func13 (by kernel_rfl) rfl #[.slice A0 l0.length c0, .string a3] rfl (by (try simp only [List.map_toArray, List.map_cons, List.map_nil]); first | done | rfl | (simp only [List.length_drop, List.length_take]; rfl)) ?_; (with_reducible refine (heap_Find.calls kj4 _ _ l0 a3 t350 false _ ?side1 ?side2 A18.out).mono ?_); (case side1 => repeat (first | exact (Kd.C_below HR0.out HB.out) | (with_reducible refine Kd.C_alloc ?_ _) | (with_reducible refine Kd.C_drewN ?_ _) | (with_reducible refine Kd.C_drew ?_))); (case side2 => exact HC0.out); rintro e w216 ⟨rfl, hb⟩; refine ⟨_, rfl, ?_⟩; have n0_ := Aside0.mk (Kd.V_below (by (with_reducible repeat (first | apply Kd.V_alloc | apply Kd.V_drewN | apply Kd.V_drew)); exact HO336.out) hb); have n1_ := Aside0.mk (Kd.V_below (by (with_reducible repeat (first | apply Kd.V_alloc | apply Kd.V_drewN | apply Kd.V_drew)); exact HO343.out) hb); have n2_ := Aside0.mk (Kd.V_below (by (with_reducible repeat (first | apply Kd.V_alloc | apply Kd.V_drewN | apply Kd.V_drew)); exact HO348.out) hb); have n3_ := Aside0.mk (blk_below (bT BK331.out) hb); have n4_ := Aside0.mk (blk_below (bT BK345.out) hb); have n5_ := Aside0.mk (below_step (bW HB.out) hb); clear HO336 HO343 HO348 BK331 BK345 HB; have HO336 := n0_; have HO343 := n1_; have HO348 := n2_; have BK331 := n3_; have BK345 := n4_; have HB := n5_; clear n0_ n1_ n2_ n3_ n4_ n5_; (try clear hb); (try clear hb2); (try clear hk); (try clear hi)) | ((with_reducible refine gate_callee (f := 14) rfl ?_); refine goesL_ (some 62) rfl rfl Try.func14 (by kernel_rfl) rfl #[.slice A0 l0.length c0] rfl (by (try simp only [List.map_toArray, List.map_cons, List.map_nil]); first | done | rfl | (simp only [List.length_drop, List.length_take]; rfl)) ?_; (with_reducible refine (samphireref11_Right.calls kj4 _ _ l0 false _ ?side1 ?side2 A19.out).mono ?_); (case side1 => repeat (first | exact (Kd.C_below HR0.out HB.out) | (with_reducible refine Kd.C_alloc ?_ _) | (with_reducible refine Kd.C_drewN ?_ _) | (with_reducible refine Kd.C_drew ?_))); (case side2 => exact HC0.out); rintro e w217 ⟨rfl, hb⟩; refine ⟨_, rfl, ?_⟩; have n0_ := Aside0.mk (Kd.V_below (by (with_reducible repeat (first | apply Kd.V_alloc | apply Kd.V_drewN | apply Kd.V_drew)); exact HO336.out) hb); have n1_ := Aside0.mk (Kd.V_below (by (with_reducible repeat (first | apply Kd.V_alloc | apply Kd.V_drewN | apply Kd.V_drew)); exact HO343.out) hb); have n2_ := Aside0.mk (Kd.V_below (by (with_reducible repeat (first | apply Kd.V_alloc | apply Kd.V_drewN | apply Kd.V_drew)); exact HO348.out) hb); have n3_ := Aside0.mk (blk_below (bT BK331.out) hb); have n4_ := Aside0.mk (blk_below (bT BK345.out) hb); have n5_ := Aside0.mk (below_step (bW HB.out) hb); clear HO336 HO343 HO348 BK331 BK345 HB; have HO336 := n0_; have HO343 := n1_; have HO348 := n2_; have BK331 := n3_; have BK345 := n4_; have HB := n5_; clear n0_ n1_ n2_ n3_ n4_ n5_; (try clear hb); (try clear hb2); (try clear hk); (try clear hi)) | ((with_reducible refine gate_callee (f := 15) rfl ?_); refine goesL_ (some 65) rfl rfl Try.func15 (by kernel_rfl) rfl #[.slice A0 l0.length c0] rfl (by (try simp only [List.map_toArray, List.map_cons, List.map_nil]); first | done | rfl | (simp only [List.length_drop, List.length_take]; rfl)) ?_; (with_reducible refine (heap_Right.calls kj4 _ _ l0 false _ ?side1 ?side2 A164.out).mono ?_); (case side1 => repeat (first | exact (Kd.C_below HR0.out HB.out) | (with_reducible refine Kd.C_alloc ?_ _) | (with_reducible refine Kd.C_drewN ?_ _) | (with_reducible refine Kd.C_drew ?_))); (case side2 => exact HC0.out); rintro e w218 ⟨rfl, hb⟩; refine ⟨_, rfl, ?_⟩; have n0_ := Aside0.mk (Kd.V_below (by (with_reducible repeat (first | apply Kd.V_alloc | apply Kd.V_drewN | apply Kd.V_drew)); exact HO336.out) hb); have n1_ := Aside0.mk (Kd.V_below (by (with_reducible repeat (first | apply Kd.V_alloc | apply Kd.V_drewN | apply Kd.V_drew)); exact HO343.out) hb); have n2_ := Aside0.mk (Kd.V_below (by (with_reducible repeat (first | apply Kd.V_alloc | apply Kd.V_drewN | apply Kd.V_drew)); exact HO348.out) hb); have n3_ := Aside0.mk (blk_below (bT BK331.out) hb); have n4_ := Aside0.mk (blk_below (bT BK345.out) hb); have n5_ := Aside0.mk (below_step (bW HB.out) hb); clear HO336 HO343 HO348 BK331 BK345 HB; have HO336 := n0_; have HO343 := n1_; have HO348 := n2_; have BK331 := n3_; have BK345 := n4_; have HB := n5_; clear n0_ n1_ n2_ n3_ n4_ n5_; (try clear hb); (try clear hb2); (try clear hk); (try clear hi); obtain ⟨Ao219, co219, eo219⟩ := Kd.V_slice HO336.out; subst eo219) | (go_at_call 16; (with_reducible refine (samphireref10_Same.calls kj4 _ _ t334 _ _ l0 true _ ?side1 ?side2 ?side3 ?side4 A181.out).mono ?_); (case side1 => repeat (first | exact (Kd.V_reads' HO336.out).2.2 | (with_reducible refine Kd.C_alloc ?_ _) | (with_reducible refine Kd.C_drewN ?_ _) | (with_reducible refine Kd.C_drew ?_))); (case side2 => exact (Kd.V_reads' HO336.out).2.1); (case side3 => repeat (first | exact (Kd.C_below HR0.out HB.out) | (with_reducible refine Kd.C_alloc ?_ _) | (with_reducible refine Kd.C_drewN ?_ _) | (with_reducible refine Kd.C_drew ?_))); (case side4 => exact HC0.out); rintro e w' ⟨rfl, ⟨nd, rfl⟩⟩; obtain ⟨Ao220, co220, eo220⟩ := Kd.V_slice HO343.out; subst eo220) | (go_at_call 16; (with_reducible refine (samphireref10_Same.calls kj4 _ _ t341 _ _ l0 true _ ?side1 ?side2 ?side3 ?side4 A183.out).mono ?_); (case side1 => repeat (first | exact (Kd.V_reads' HO343.out).2.2 | (with_reducible refine Kd.C_alloc ?_ _) | (with_reducible refine Kd.C_drewN ?_ _) | (with_reducible refine Kd.C_drew ?_))); (case side2 => exact (Kd.V_reads' HO343.out).2.1); (case side3 => repeat (first | exact (Kd.C_below HR0.out (bW HB.out)) | (with_reducible refine Kd.C_alloc ?_ _) | (with_reducible refine Kd.C_drewN ?_ _) | (with_reducible refine Kd.C_drew ?_))); (case side4 => exact HC0.out); rintro e w' ⟨rfl, ⟨nd, rfl⟩⟩; obtain ⟨Ao221, co221, eo221⟩ := Kd.V_slice HO348.out; subst eo221) | (go_at_call 16; (with_reducible refine (samphireref10_Same.calls kj4 _ _ t346 _ _ l0 true _ ?side1 ?side2 ?side3 ?side4 A185.out).mono ?_); (case side1 => repeat (first | exact (Kd.V_reads' HO348.out).2.2 | (with_reducible refine Kd.C_alloc ?_ _) | (with_reducible refine Kd.C_drewN ?_ _) | (with_reducible refine Kd.C_drew ?_))); (case side2 => exact (Kd.V_reads' HO348.out).2.1); (case side3 => repeat (first | exact (Kd.C_below HR0.out (bW HB.out)) | (with_reducible refine Kd.C_alloc ?_ _) | (with_reducible refine Kd.C_drewN ?_ _) | (with_reducible refine Kd.C_drew ?_))); (case side4 => exact HC0.out); rintro e w' ⟨rfl, ⟨nd, rfl⟩⟩; have hcz222_0 : w218.cell? ⟨gb345, 0, none⟩ = some (.string t338) := (blk_cell BK345.out 0).trans rfl; have hcz222_1 : w218.cell? ⟨gb345, 1, none⟩ = some (.int .u64 t339) := (blk_cell BK345.out 1).trans rfl; have hcz222_2 : w218.cell? ⟨gb345, 2, none⟩ = some (.int .u64 t340) := (blk_cell BK345.out 2).trans rfl; have hfz222_0 := blk_frozen BK345.out 0; have hfz222_1 := blk_frozen BK345.out 1; have hfz222_2 := blk_frozen BK345.out 2) | (go_at_call 9; (with_reducible refine (samphirelaw11_awake.calls kj4  t357 _ A206.out).mono ?_); rintro e w223 ⟨rfl, hb⟩; have n0_ := Aside0.mk (Kd.V_below (by (with_reducible repeat (first | apply Kd.V_alloc | apply Kd.V_drewN | apply Kd.V_drew)); exact HO336.out) hb); have n1_ := Aside0.mk (Kd.V_below (by (with_reducible repeat (first | apply Kd.V_alloc | apply Kd.V_drewN | apply Kd.V_drew)); exact HO343.out) hb); have n2_ := Aside0.mk (Kd.V_below (by (with_reducible repeat (first | apply Kd.V_alloc | apply Kd.V_drewN | apply Kd.V_drew)); exact HO348.out) hb); have n3_ := Aside0.mk (blk_below (bT BK331.out) hb); have n4_ := Aside0.mk (blk_below (bT BK345.out) hb); have n5_ := Aside0.mk (below_step (bW HB.out) hb); clear HO336 HO343 HO348 BK331 BK345 HB; have HO336 := n0_; have HO343 := n1_; have HO348 := n2_; have BK331 := n3_; have BK345 := n4_; have HB := n5_; clear n0_ n1_ n2_ n3_ n4_ n5_; (try clear hb); (try clear hb2); (try clear hk); (try clear hi)))
               go_ret
               exact ⟨by first | rfl | (simp [errW_none, errW_some] <;> rfl) | (simp [*, errW_none, errW_some] <;> rfl), by repeat (first | (with_reducible first | exact HB.out | apply below_alloc | apply pw_below_drewN | apply below_drew1 | refine below_set ?_ GE331.out | refine below_set ?_ GE345.out) | exact HB.out)⟩
               all_goals (rename_i h_; exact absurd (by simpa using c187b0) h_)
             ·
              rw [if_neg c188] at H
              have c188b0 : (t350 == 0) = false := beq_eq_false_iff_ne.mpr c188
              have c188b1 : (t350 != 0) = true := bne_iff_ne.mpr c188
              cases H
            ·
             rw [if_neg c187] at H
             have c187b0 : (t338.toList == ([] : List UInt8) && (t339 == 0 && (t340 == 0))) = false := by simpa using c187
             (try (have c187b1 : decide (t338.toList = ([] : List UInt8) && (t339 == 0 && (t340 == 0))) = false := by simpa using c187))
             (try (have c187b2 : (t338.toList == ([] : List UInt8) && (t339 == 0 && (t340 == 0))) = false := by simpa using c187))
             (try (have c187b3 : ¬ (t338.toList = ([] : List UInt8) && (t339 == 0 && (t340 == 0))) := by simpa using c187))
             clear c187
             cases H
           ·
            replace c186 := Bool.eq_false_iff.mpr c186
            subst c186
            have H1 : (none) = some r := by rw [if_neg (show ¬ (false = true) by decide)] at H; exact H
            cases H1
          ·
           replace c184 := Bool.eq_false_iff.mpr c184
           subst c184
           have H1 : (none) = some r := by rw [if_neg (show ¬ (false = true) by decide)] at H; exact H
           cases H1
         ·
          replace c182 := Bool.eq_false_iff.mpr c182
          subst c182
          have H1 : (none) = some r := by rw [if_neg (show ¬ (false = true) by decide)] at H; exact H
          cases H1
        ·
         rw [if_neg c180] at H
         have c180b0 : (t349 == 1) = false := beq_eq_false_iff_ne.mpr c180
         have c180b1 : (t349 != 1) = true := bne_iff_ne.mpr c180
         cases H
       ·
        rw [if_neg c179] at H
        have c179b0 : (t344 == 1) = false := beq_eq_false_iff_ne.mpr c179
        have c179b1 : (t344 != 1) = true := bne_iff_ne.mpr c179
        cases H
      ·
       rw [if_neg c178] at H
       have c178b0 : (t337 == 1) = false := beq_eq_false_iff_ne.mpr c178
       have c178b1 : (t337 != 1) = true := bne_iff_ne.mpr c178
       cases H
end Go.Proofs.Ytobdhjnaglikaaa.Q
