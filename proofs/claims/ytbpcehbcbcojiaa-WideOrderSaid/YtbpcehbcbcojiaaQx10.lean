/- Walks of Go functions, each against a plain function over numbers and lists; written by this session's program printx.py over the kit's print; no condition but those that each theorem states. -/
import Derived.Test.YtbpcehbcbcojiaaQx0
import Derived.Test.YtbpcehbcbcojiaaQx1
import Derived.Test.YtbpcehbcbcojiaaQx4
namespace Go.Proofs.Ytbpcehbcbcojiaa.Q
open Go.RowKit Go.Proofs.YtbpcehbcbcojiaaW.PrintWords Go.Proofs.YtbpcehbcbcojiaaW.PrintLast Go.Proofs.YtbpcehbcbcojiaaW.PrintMore
attribute [local go_sem] max2_int min2_int max_two min_two max_three min_three max_four min_four   -- for this text's walks alone
set_option linter.unusedVariables false
set_option linter.unusedSimpArgs false

attribute [local go_sem high] eqA24
/-! ### samphirelaw01_WideOrder: function 10 -/
def samphirelaw01_WideOrder.f (a0_0 : Int) (a0_1 : Int) (a1_0 : Int) (a1_1 : Int) : Option (Bool) := (wide_Sub.f a0_0 a0_1 a1_0 a1_1).bind fun bt263 => ((wide_Sub.f a1_0 a1_1 a0_0 a0_1).bind fun bt267 => ((wide_Cmp.f a0_0 a0_1 a1_0 a1_1).bind fun t271 => ((wide_Text.f a0_0 a0_1).bind fun t272 => ((wide_Text.f a1_0 a1_1).bind fun t273 => (if (t272.size : Int) < (t273.size : Int) then (if ((decide (t271 ≥ 0)) == bt263.2.2) = true then (if ((decide (t271 ≤ 0)) == bt267.2.2) = true then (if ((t271 == 0) == (a0_0 == a1_0 && (a0_1 == a1_1))) = true then (if ((decide (t271 < 0)) == true) = true then ((wide_Cmp.f a1_0 a1_1 a0_0 a0_1).bind fun t274 => (if t271 = (wrap64 (-t274)) then ((samphirelaw01_awake.f).bind fun t275 => (some t275)) else (none))) else (none)) else (none)) else (none)) else (none)) else (if (t272.size : Int) = (t273.size : Int) then (if ((decide (t271 ≥ 0)) == bt263.2.2) = true then (if ((decide (t271 ≤ 0)) == bt267.2.2) = true then (if ((t271 == 0) == (a0_0 == a1_0 && (a0_1 == a1_1))) = true then (if ((decide (t271 < 0)) == (Op.bytesLess t272.toList t273.toList)) = true then ((wide_Cmp.f a1_0 a1_1 a0_0 a0_1).bind fun t276 => (if t271 = (wrap64 (-t276)) then ((samphirelaw01_awake.f).bind fun t277 => (some t277)) else (none))) else (none)) else (none)) else (none)) else (none)) else (if ((decide (t271 ≥ 0)) == bt263.2.2) = true then (if ((decide (t271 ≤ 0)) == bt267.2.2) = true then (if ((t271 == 0) == (a0_0 == a1_0 && (a0_1 == a1_1))) = true then (if ((decide (t271 < 0)) == false) = true then ((wide_Cmp.f a1_0 a1_1 a0_0 a0_1).bind fun t278 => (if t271 = (wrap64 (-t278)) then ((samphirelaw01_awake.f).bind fun t279 => (some t279)) else (none))) else (none)) else (none)) else (none)) else (none))))))))
set_option maxHeartbeats 8000000 in
set_option maxRecDepth 100000 in
theorem samphirelaw01_WideOrder.calls (a0_0 : Int) (a0_1 : Int) (a1_0 : Int) (a1_1 : Int) (r : Bool) (w : World) (h : samphirelaw01_WideOrder.f a0_0 a0_1 a1_0 a1_1 = some r) :
  Calls Try.prog 10 #[.agg #[.int .u64 a0_0, .int .u64 a0_1], .agg #[.int .u64 a1_0, .int .u64 a1_1]] w fun e w' => e = .returned (.bool r) ∧ Below w.heap.size w w' := by
 have hu24 := Try.underlying24
 have HB := Aside0.mk (Below.refl w.heap.size w)
 have H : ((wide_Sub.f a0_0 a0_1 a1_0 a1_1).bind fun bt263 => ((wide_Sub.f a1_0 a1_1 a0_0 a0_1).bind fun bt267 => ((wide_Cmp.f a0_0 a0_1 a1_0 a1_1).bind fun t271 => ((wide_Text.f a0_0 a0_1).bind fun t272 => ((wide_Text.f a1_0 a1_1).bind fun t273 => (if (t272.size : Int) < (t273.size : Int) then (if ((decide (t271 ≥ 0)) == bt263.2.2) = true then (if ((decide (t271 ≤ 0)) == bt267.2.2) = true then (if ((t271 == 0) == (a0_0 == a1_0 && (a0_1 == a1_1))) = true then (if ((decide (t271 < 0)) == true) = true then ((wide_Cmp.f a1_0 a1_1 a0_0 a0_1).bind fun t274 => (if t271 = (wrap64 (-t274)) then ((samphirelaw01_awake.f).bind fun t275 => (some t275)) else (none))) else (none)) else (none)) else (none)) else (none)) else (if (t272.size : Int) = (t273.size : Int) then (if ((decide (t271 ≥ 0)) == bt263.2.2) = true then (if ((decide (t271 ≤ 0)) == bt267.2.2) = true then (if ((t271 == 0) == (a0_0 == a1_0 && (a0_1 == a1_1))) = true then (if ((decide (t271 < 0)) == (Op.bytesLess t272.toList t273.toList)) = true then ((wide_Cmp.f a1_0 a1_1 a0_0 a0_1).bind fun t276 => (if t271 = (wrap64 (-t276)) then ((samphirelaw01_awake.f).bind fun t277 => (some t277)) else (none))) else (none)) else (none)) else (none)) else (none)) else (if ((decide (t271 ≥ 0)) == bt263.2.2) = true then (if ((decide (t271 ≤ 0)) == bt267.2.2) = true then (if ((t271 == 0) == (a0_0 == a1_0 && (a0_1 == a1_1))) = true then (if ((decide (t271 < 0)) == false) = true then ((wide_Cmp.f a1_0 a1_1 a0_0 a0_1).bind fun t278 => (if t271 = (wrap64 (-t278)) then ((samphirelaw01_awake.f).bind fun t279 => (some t279)) else (none))) else (none)) else (none)) else (none)) else (none))))))))) = some r := h
 clear h
 replace H := Option.bind_eq_some_iff.mp H
 obtain ⟨⟨t263, t264, t265⟩, A30, H⟩ := H
 replace H : ((wide_Sub.f a1_0 a1_1 a0_0 a0_1).bind fun bt267 => ((wide_Cmp.f a0_0 a0_1 a1_0 a1_1).bind fun t271 => ((wide_Text.f a0_0 a0_1).bind fun t272 => ((wide_Text.f a1_0 a1_1).bind fun t273 => (if (t272.size : Int) < (t273.size : Int) then (if ((decide (t271 ≥ 0)) == t265) = true then (if ((decide (t271 ≤ 0)) == bt267.2.2) = true then (if ((t271 == 0) == (a0_0 == a1_0 && (a0_1 == a1_1))) = true then (if ((decide (t271 < 0)) == true) = true then ((wide_Cmp.f a1_0 a1_1 a0_0 a0_1).bind fun t274 => (if t271 = (wrap64 (-t274)) then ((samphirelaw01_awake.f).bind fun t275 => (some t275)) else (none))) else (none)) else (none)) else (none)) else (none)) else (if (t272.size : Int) = (t273.size : Int) then (if ((decide (t271 ≥ 0)) == t265) = true then (if ((decide (t271 ≤ 0)) == bt267.2.2) = true then (if ((t271 == 0) == (a0_0 == a1_0 && (a0_1 == a1_1))) = true then (if ((decide (t271 < 0)) == (Op.bytesLess t272.toList t273.toList)) = true then ((wide_Cmp.f a1_0 a1_1 a0_0 a0_1).bind fun t276 => (if t271 = (wrap64 (-t276)) then ((samphirelaw01_awake.f).bind fun t277 => (some t277)) else (none))) else (none)) else (none)) else (none)) else (none)) else (if ((decide (t271 ≥ 0)) == t265) = true then (if ((decide (t271 ≤ 0)) == bt267.2.2) = true then (if ((t271 == 0) == (a0_0 == a1_0 && (a0_1 == a1_1))) = true then (if ((decide (t271 < 0)) == false) = true then ((wide_Cmp.f a1_0 a1_1 a0_0 a0_1).bind fun t278 => (if t271 = (wrap64 (-t278)) then ((samphirelaw01_awake.f).bind fun t279 => (some t279)) else (none))) else (none)) else (none)) else (none)) else (none)))))))) = some r := H
 have A3 := Aside0.mk A30
 clear A30
 replace H := Option.bind_eq_some_iff.mp H
 obtain ⟨⟨t267, t268, t269⟩, A40, H⟩ := H
 replace H : ((wide_Cmp.f a0_0 a0_1 a1_0 a1_1).bind fun t271 => ((wide_Text.f a0_0 a0_1).bind fun t272 => ((wide_Text.f a1_0 a1_1).bind fun t273 => (if (t272.size : Int) < (t273.size : Int) then (if ((decide (t271 ≥ 0)) == t265) = true then (if ((decide (t271 ≤ 0)) == t269) = true then (if ((t271 == 0) == (a0_0 == a1_0 && (a0_1 == a1_1))) = true then (if ((decide (t271 < 0)) == true) = true then ((wide_Cmp.f a1_0 a1_1 a0_0 a0_1).bind fun t274 => (if t271 = (wrap64 (-t274)) then ((samphirelaw01_awake.f).bind fun t275 => (some t275)) else (none))) else (none)) else (none)) else (none)) else (none)) else (if (t272.size : Int) = (t273.size : Int) then (if ((decide (t271 ≥ 0)) == t265) = true then (if ((decide (t271 ≤ 0)) == t269) = true then (if ((t271 == 0) == (a0_0 == a1_0 && (a0_1 == a1_1))) = true then (if ((decide (t271 < 0)) == (Op.bytesLess t272.toList t273.toList)) = true then ((wide_Cmp.f a1_0 a1_1 a0_0 a0_1).bind fun t276 => (if t271 = (wrap64 (-t276)) then ((samphirelaw01_awake.f).bind fun t277 => (some t277)) else (none))) else (none)) else (none)) else (none)) else (none)) else (if ((decide (t271 ≥ 0)) == t265) = true then (if ((decide (t271 ≤ 0)) == t269) = true then (if ((t271 == 0) == (a0_0 == a1_0 && (a0_1 == a1_1))) = true then (if ((decide (t271 < 0)) == false) = true then ((wide_Cmp.f a1_0 a1_1 a0_0 a0_1).bind fun t278 => (if t271 = (wrap64 (-t278)) then ((samphirelaw01_awake.f).bind fun t279 => (some t279)) else (none))) else (none)) else (none)) else (none)) else (none))))))) = some r := H
 have A4 := Aside0.mk A40
 clear A40
 replace H := Option.bind_eq_some_iff.mp H
 obtain ⟨t271, A50, H⟩ := H
 replace H : ((wide_Text.f a0_0 a0_1).bind fun t272 => ((wide_Text.f a1_0 a1_1).bind fun t273 => (if (t272.size : Int) < (t273.size : Int) then (if ((decide (t271 ≥ 0)) == t265) = true then (if ((decide (t271 ≤ 0)) == t269) = true then (if ((t271 == 0) == (a0_0 == a1_0 && (a0_1 == a1_1))) = true then (if ((decide (t271 < 0)) == true) = true then ((wide_Cmp.f a1_0 a1_1 a0_0 a0_1).bind fun t274 => (if t271 = (wrap64 (-t274)) then ((samphirelaw01_awake.f).bind fun t275 => (some t275)) else (none))) else (none)) else (none)) else (none)) else (none)) else (if (t272.size : Int) = (t273.size : Int) then (if ((decide (t271 ≥ 0)) == t265) = true then (if ((decide (t271 ≤ 0)) == t269) = true then (if ((t271 == 0) == (a0_0 == a1_0 && (a0_1 == a1_1))) = true then (if ((decide (t271 < 0)) == (Op.bytesLess t272.toList t273.toList)) = true then ((wide_Cmp.f a1_0 a1_1 a0_0 a0_1).bind fun t276 => (if t271 = (wrap64 (-t276)) then ((samphirelaw01_awake.f).bind fun t277 => (some t277)) else (none))) else (none)) else (none)) else (none)) else (none)) else (if ((decide (t271 ≥ 0)) == t265) = true then (if ((decide (t271 ≤ 0)) == t269) = true then (if ((t271 == 0) == (a0_0 == a1_0 && (a0_1 == a1_1))) = true then (if ((decide (t271 < 0)) == false) = true then ((wide_Cmp.f a1_0 a1_1 a0_0 a0_1).bind fun t278 => (if t271 = (wrap64 (-t278)) then ((samphirelaw01_awake.f).bind fun t279 => (some t279)) else (none))) else (none)) else (none)) else (none)) else (none)))))) = some r := H
 have A5 := Aside0.mk A50
 clear A50
 replace H := Option.bind_eq_some_iff.mp H
 obtain ⟨t272, A60, H⟩ := H
 replace H : ((wide_Text.f a1_0 a1_1).bind fun t273 => (if (t272.size : Int) < (t273.size : Int) then (if ((decide (t271 ≥ 0)) == t265) = true then (if ((decide (t271 ≤ 0)) == t269) = true then (if ((t271 == 0) == (a0_0 == a1_0 && (a0_1 == a1_1))) = true then (if ((decide (t271 < 0)) == true) = true then ((wide_Cmp.f a1_0 a1_1 a0_0 a0_1).bind fun t274 => (if t271 = (wrap64 (-t274)) then ((samphirelaw01_awake.f).bind fun t275 => (some t275)) else (none))) else (none)) else (none)) else (none)) else (none)) else (if (t272.size : Int) = (t273.size : Int) then (if ((decide (t271 ≥ 0)) == t265) = true then (if ((decide (t271 ≤ 0)) == t269) = true then (if ((t271 == 0) == (a0_0 == a1_0 && (a0_1 == a1_1))) = true then (if ((decide (t271 < 0)) == (Op.bytesLess t272.toList t273.toList)) = true then ((wide_Cmp.f a1_0 a1_1 a0_0 a0_1).bind fun t276 => (if t271 = (wrap64 (-t276)) then ((samphirelaw01_awake.f).bind fun t277 => (some t277)) else (none))) else (none)) else (none)) else (none)) else (none)) else (if ((decide (t271 ≥ 0)) == t265) = true then (if ((decide (t271 ≤ 0)) == t269) = true then (if ((t271 == 0) == (a0_0 == a1_0 && (a0_1 == a1_1))) = true then (if ((decide (t271 < 0)) == false) = true then ((wide_Cmp.f a1_0 a1_1 a0_0 a0_1).bind fun t278 => (if t271 = (wrap64 (-t278)) then ((samphirelaw01_awake.f).bind fun t279 => (some t279)) else (none))) else (none)) else (none)) else (none)) else (none))))) = some r := H
 have A6 := Aside0.mk A60
 clear A60
 replace H := Option.bind_eq_some_iff.mp H
 obtain ⟨t273, A70, H⟩ := H
 replace H : (if (t272.size : Int) < (t273.size : Int) then (if ((decide (t271 ≥ 0)) == t265) = true then (if ((decide (t271 ≤ 0)) == t269) = true then (if ((t271 == 0) == (a0_0 == a1_0 && (a0_1 == a1_1))) = true then (if ((decide (t271 < 0)) == true) = true then ((wide_Cmp.f a1_0 a1_1 a0_0 a0_1).bind fun t274 => (if t271 = (wrap64 (-t274)) then ((samphirelaw01_awake.f).bind fun t275 => (some t275)) else (none))) else (none)) else (none)) else (none)) else (none)) else (if (t272.size : Int) = (t273.size : Int) then (if ((decide (t271 ≥ 0)) == t265) = true then (if ((decide (t271 ≤ 0)) == t269) = true then (if ((t271 == 0) == (a0_0 == a1_0 && (a0_1 == a1_1))) = true then (if ((decide (t271 < 0)) == (Op.bytesLess t272.toList t273.toList)) = true then ((wide_Cmp.f a1_0 a1_1 a0_0 a0_1).bind fun t276 => (if t271 = (wrap64 (-t276)) then ((samphirelaw01_awake.f).bind fun t277 => (some t277)) else (none))) else (none)) else (none)) else (none)) else (none)) else (if ((decide (t271 ≥ 0)) == t265) = true then (if ((decide (t271 ≤ 0)) == t269) = true then (if ((t271 == 0) == (a0_0 == a1_0 && (a0_1 == a1_1))) = true then (if ((decide (t271 < 0)) == false) = true then ((wide_Cmp.f a1_0 a1_1 a0_0 a0_1).bind fun t278 => (if t271 = (wrap64 (-t278)) then ((samphirelaw01_awake.f).bind fun t279 => (some t279)) else (none))) else (none)) else (none)) else (none)) else (none)))) = some r := H
 have A7 := Aside0.mk A70
 clear A70
 by_cases c8 : (t272.size : Int) < (t273.size : Int)
 ·
  rw [if_pos c8] at H
  have c8b0 : decide ((t272.size : Int) < (t273.size : Int)) = true := decide_eq_true c8
  have c8b1 : decide (t272.size < t273.size) = true := decide_eq_true (Int.ofNat_lt.mp c8)
  clear c8
  by_cases c9 : ((decide (t271 ≥ 0)) == t265) = true
  ·
   rw [if_pos c9] at H
   have c9b0 : ((decide (t271 ≥ 0)) == t265) = true := c9
   (try (have c9b1 : decide ((decide (t271 ≥ 0)) = t265) = true := by simpa using c9))
   (try (have c9b2 : ((decide (t271 ≥ 0)) == t265) = true := by simpa using c9))
   clear c9
   by_cases c10 : ((decide (t271 ≤ 0)) == t269) = true
   ·
    rw [if_pos c10] at H
    have c10b0 : ((decide (t271 ≤ 0)) == t269) = true := c10
    (try (have c10b1 : decide ((decide (t271 ≤ 0)) = t269) = true := by simpa using c10))
    (try (have c10b2 : ((decide (t271 ≤ 0)) == t269) = true := by simpa using c10))
    clear c10
    by_cases c11 : ((t271 == 0) == (a0_0 == a1_0 && (a0_1 == a1_1))) = true
    ·
     rw [if_pos c11] at H
     have c11b0 : ((t271 == 0) == (a0_0 == a1_0 && (a0_1 == a1_1))) = true := c11
     (try (have c11b1 : decide ((t271 == 0) = (a0_0 == a1_0 && (a0_1 == a1_1))) = true := by simpa using c11))
     (try (have c11b2 : ((t271 == 0) == (a0_0 == a1_0 && (a0_1 == a1_1))) = true := by simpa using c11))
     clear c11
     by_cases c12 : ((decide (t271 < 0)) == true) = true
     ·
      rw [if_pos c12] at H
      have c12b0 : ((decide (t271 < 0)) == true) = true := c12
      (try (have c12b1 : decide ((decide (t271 < 0)) = true) = true := by simpa using c12))
      (try (have c12b2 : ((decide (t271 < 0)) == true) = true := by simpa using c12))
      clear c12
      replace H := Option.bind_eq_some_iff.mp H
      obtain ⟨t274, A130, H⟩ := H
      replace H : (if t271 = (wrap64 (-t274)) then ((samphirelaw01_awake.f).bind fun t275 => (some t275)) else (none)) = some r := H
      have A13 := Aside0.mk A130
      clear A130
      by_cases c14 : t271 = (wrap64 (-t274))
      ·
       rw [if_pos c14] at H
       have c14b0 : (t271 == (wrap64 (-t274))) = true := beq_iff_eq.mpr c14
       have c14b1 : (t271 != (wrap64 (-t274))) = false := bne_eq_false_iff_eq.mpr c14
       clear c14
       replace H := Option.bind_eq_some_iff.mp H
       obtain ⟨t275, A150, H⟩ := H
       replace H : (some t275) = some r := H
       have A15 := Aside0.mk A150
       clear A150
       obtain rfl := Option.some.inj H
       go_enter Try.func10, Try.ntmps10
       try go_wp2_with (first | ((with_reducible refine gate_dst (N := 2) rfl ?_); (try (refine gate_guard (by rfl) ?_; dsimp only)); refine box_event ?hg (N := 2) ?hd (cs := #[.int .u64 a0_0, .int .u64 a0_1]) (t := 24) ?hr ?_; (case hd => rfl); (case hg => rfl); (case hr => first | (go_simp; done) | (go_simp; rfl)); intro gb261 hg w16 hbox hb; have n0_ := Aside0.mk (below_step (by repeat (first | (with_reducible first | exact HB.out | apply below_alloc | apply pw_below_drewN | apply below_drew1) | exact HB.out)) hb); have n1_ := Aside0.mk (hbox); have n2_ := Aside0.mk ((by rw [hg]; exact (below_size (by repeat (first | (with_reducible first | exact HB.out | apply below_alloc | apply pw_below_drewN | apply below_drew1) | exact HB.out))) : w.heap.size ≤ gb261)); have n3_ := Aside0.mk ((by rw [hg]; exact (below_size (by repeat (first | (with_reducible first | exact HB.out | apply below_alloc | apply pw_below_drewN | apply below_drew1) | exact HB.out))) : w.heap.size ≤ gb261)); clear HB; have HB := n0_; have BK261 := n1_; have GW261 := n2_; have GE261 := n3_; clear n0_ n1_ n2_ n3_; clear hb hbox hg) | ((with_reducible refine gate_dst (N := 3) rfl ?_); (try (refine gate_guard (by rfl) ?_; dsimp only)); refine box_event ?hg (N := 3) ?hd (cs := #[.int .u64 a1_0, .int .u64 a1_1]) (t := 24) ?hr ?_; (case hd => rfl); (case hg => rfl); (case hr => first | (go_simp; done) | (go_simp; rfl)); intro gb262 hg w17 hbox hb; have n0_ := Aside0.mk (blk_below (g := gb261) (o := .cells #[.int .u64 a0_0, .int .u64 a0_1] 24 (0, 0)) (by (with_reducible repeat (first | refine blk_drewN ?_ _ | refine blk_drew ?_ | refine blk_alloc ?_ _)); exact BK261.out) hb); have n1_ := Aside0.mk (below_step (by repeat (first | (with_reducible first | exact HB.out | apply below_alloc | apply pw_below_drewN | apply below_drew1 | refine below_set ?_ GE261.out) | exact HB.out)) hb); have n2_ := Aside0.mk (hbox); have n3_ := Aside0.mk ((by rw [hg]; exact (below_size (by repeat (first | (with_reducible first | exact HB.out | apply below_alloc | apply pw_below_drewN | apply below_drew1 | refine below_set ?_ GE261.out) | exact HB.out))) : w.heap.size ≤ gb262)); have n4_ := Aside0.mk ((by rw [hg]; exact (below_size (by repeat (first | (with_reducible first | exact HB.out | apply below_alloc | apply pw_below_drewN | apply below_drew1 | refine below_set ?_ GE261.out) | exact HB.out))) : w.heap.size ≤ gb262)); have n5_ := Aside0.mk ((by rw [hg]; exact Nat.ne_of_lt (blk_lt (g := gb261) (o := .cells #[.int .u64 a0_0, .int .u64 a0_1] 24 (0, 0)) (by (with_reducible repeat (first | refine blk_drewN ?_ _ | refine blk_drew ?_ | refine blk_alloc ?_ _)); exact BK261.out)) : gb261 ≠ gb262)); have n6_ := Aside0.mk ((by rw [hg]; exact Nat.ne_of_gt (blk_lt (g := gb261) (o := .cells #[.int .u64 a0_0, .int .u64 a0_1] 24 (0, 0)) (by (with_reducible repeat (first | refine blk_drewN ?_ _ | refine blk_drew ?_ | refine blk_alloc ?_ _)); exact BK261.out)) : gb262 ≠ gb261)); clear BK261; clear HB; have BK261 := n0_; have HB := n1_; have BK262 := n2_; have GW262 := n3_; have GE262 := n4_; have NB261_262 := n5_; have NB262_261 := n6_; clear n0_ n1_ n2_ n3_ n4_ n5_ n6_; clear hb hbox hg; have hnb18 := NB261_262.out; have hnc18 := NB262_261.out; have hcz19_0 : w17.cell? ⟨gb261, 0, none⟩ = some (.int .u64 a0_0) := (blk_cell BK261.out 0).trans rfl; have hcz19_1 : w17.cell? ⟨gb261, 1, none⟩ = some (.int .u64 a0_1) := (blk_cell BK261.out 1).trans rfl; have hfz19_0 := blk_frozen BK261.out 0; have hfz19_1 := blk_frozen BK261.out 1; have hcz20_0 : w17.cell? ⟨gb262, 0, none⟩ = some (.int .u64 a1_0) := (blk_cell BK262.out 0).trans rfl; have hcz20_1 : w17.cell? ⟨gb262, 1, none⟩ = some (.int .u64 a1_1) := (blk_cell BK262.out 1).trans rfl; have hfz20_0 := blk_frozen BK262.out 0; have hfz20_1 := blk_frozen BK262.out 1) | ((with_reducible refine gate_callee (f := 22) rfl ?_); refine goesL_ (some 16) rfl rfl Try.func22 (by kernel_rfl) rfl #[.agg #[.int .u64 a0_0, .int .u64 a0_1], .agg #[.int .u64 a1_0, .int .u64 a1_1]] rfl (by (try simp only [List.map_toArray, List.map_cons, List.map_nil]); first | done | rfl | (simp only [List.length_drop, List.length_take]; rfl)) ?_; (with_reducible refine (wide_Sub.calls a0_0 a0_1 a1_0 a1_1 t263 t264 t265 _ A3.out).mono ?_); rintro e w21 ⟨rfl, hb⟩; refine ⟨_, rfl, ?_⟩; have n0_ := Aside0.mk (blk_below (g := gb261) (o := .cells #[.int .u64 a0_0, .int .u64 a0_1] 24 (0, 0)) (by (with_reducible repeat (first | refine blk_drewN ?_ _ | refine blk_drew ?_ | refine blk_alloc ?_ _)); exact BK261.out) hb); have n1_ := Aside0.mk (blk_below (g := gb262) (o := .cells #[.int .u64 a1_0, .int .u64 a1_1] 24 (0, 0)) (by (with_reducible repeat (first | refine blk_drewN ?_ _ | refine blk_drew ?_ | refine blk_alloc ?_ _)); exact BK262.out) hb); have n2_ := Aside0.mk (below_step (by repeat (first | (with_reducible first | exact HB.out | apply below_alloc | apply pw_below_drewN | apply below_drew1 | refine below_set ?_ GE261.out | refine below_set ?_ GE262.out) | exact HB.out)) hb); clear BK261; clear BK262; clear HB; have BK261 := n0_; have BK262 := n1_; have HB := n2_; clear n0_ n1_ n2_; (try clear hb); (try clear hb2); (try clear hk); (try clear hi)) | ((with_reducible refine gate_dst (N := 5) rfl ?_); (try (refine gate_guard (by rfl) ?_; dsimp only)); refine box_event ?hg (N := 5) ?hd (cs := #[.int .u64 0, .int .u64 0]) (t := 24) ?hr ?_; (case hd => rfl); (case hg => rfl); (case hr => first | (go_simp; done) | (go_simp; rfl)); intro gb266 hg w22 hbox hb; have n0_ := Aside0.mk (blk_below (g := gb261) (o := .cells #[.int .u64 a0_0, .int .u64 a0_1] 24 (0, 0)) (by (with_reducible repeat (first | refine blk_drewN ?_ _ | refine blk_drew ?_ | refine blk_alloc ?_ _)); exact BK261.out) hb); have n1_ := Aside0.mk (blk_below (g := gb262) (o := .cells #[.int .u64 a1_0, .int .u64 a1_1] 24 (0, 0)) (by (with_reducible repeat (first | refine blk_drewN ?_ _ | refine blk_drew ?_ | refine blk_alloc ?_ _)); exact BK262.out) hb); have n2_ := Aside0.mk (below_step (by repeat (first | (with_reducible first | exact HB.out | apply below_alloc | apply pw_below_drewN | apply below_drew1 | refine below_set ?_ GE261.out | refine below_set ?_ GE262.out) | exact HB.out)) hb); have n3_ := Aside0.mk (hbox); have n4_ := Aside0.mk ((by rw [hg]; exact (below_size (by repeat (first | (with_reducible first | exact HB.out | apply below_alloc | apply pw_below_drewN | apply below_drew1 | refine below_set ?_ GE261.out | refine below_set ?_ GE262.out) | exact HB.out))) : w.heap.size ≤ gb266)); have n5_ := Aside0.mk ((by rw [hg]; exact (below_size (by repeat (first | (with_reducible first | exact HB.out | apply below_alloc | apply pw_below_drewN | apply below_drew1 | refine below_set ?_ GE261.out | refine below_set ?_ GE262.out) | exact HB.out))) : w.heap.size ≤ gb266)); have n6_ := Aside0.mk ((by rw [hg]; exact Nat.ne_of_lt (blk_lt (g := gb261) (o := .cells #[.int .u64 a0_0, .int .u64 a0_1] 24 (0, 0)) (by (with_reducible repeat (first | refine blk_drewN ?_ _ | refine blk_drew ?_ | refine blk_alloc ?_ _)); exact BK261.out)) : gb261 ≠ gb266)); have n7_ := Aside0.mk ((by rw [hg]; exact Nat.ne_of_gt (blk_lt (g := gb261) (o := .cells #[.int .u64 a0_0, .int .u64 a0_1] 24 (0, 0)) (by (with_reducible repeat (first | refine blk_drewN ?_ _ | refine blk_drew ?_ | refine blk_alloc ?_ _)); exact BK261.out)) : gb266 ≠ gb261)); have n8_ := Aside0.mk ((by rw [hg]; exact Nat.ne_of_lt (blk_lt (g := gb262) (o := .cells #[.int .u64 a1_0, .int .u64 a1_1] 24 (0, 0)) (by (with_reducible repeat (first | refine blk_drewN ?_ _ | refine blk_drew ?_ | refine blk_alloc ?_ _)); exact BK262.out)) : gb262 ≠ gb266)); have n9_ := Aside0.mk ((by rw [hg]; exact Nat.ne_of_gt (blk_lt (g := gb262) (o := .cells #[.int .u64 a1_0, .int .u64 a1_1] 24 (0, 0)) (by (with_reducible repeat (first | refine blk_drewN ?_ _ | refine blk_drew ?_ | refine blk_alloc ?_ _)); exact BK262.out)) : gb266 ≠ gb262)); clear BK261; clear BK262; clear HB; have BK261 := n0_; have BK262 := n1_; have HB := n2_; have BK266 := n3_; have GW266 := n4_; have GE266 := n5_; have NB261_266 := n6_; have NB266_261 := n7_; have NB262_266 := n8_; have NB266_262 := n9_; clear n0_ n1_ n2_ n3_ n4_ n5_ n6_ n7_ n8_ n9_; clear hb hbox hg; have hnb23 := NB266_261.out; have hnc23 := NB261_266.out; have hnb24 := NB266_262.out; have hnc24 := NB262_266.out; have hcz25_0 : w22.cell? ⟨gb266, 0, none⟩ = some (.int .u64 0) := (blk_cell BK266.out 0).trans rfl; have hcz25_1 : w22.cell? ⟨gb266, 1, none⟩ = some (.int .u64 0) := (blk_cell BK266.out 1).trans rfl; have hfz25_0 := blk_frozen BK266.out 0; have hfz25_1 := blk_frozen BK266.out 1; have hcz26_0 : w22.cell? ⟨gb262, 0, none⟩ = some (.int .u64 a1_0) := (blk_cell BK262.out 0).trans rfl; have hcz26_1 : w22.cell? ⟨gb262, 1, none⟩ = some (.int .u64 a1_1) := (blk_cell BK262.out 1).trans rfl; have hfz26_0 := blk_frozen BK262.out 0; have hfz26_1 := blk_frozen BK262.out 1; have hcz27_0 : w22.cell? ⟨gb261, 0, none⟩ = some (.int .u64 a0_0) := (blk_cell BK261.out 0).trans rfl; have hcz27_1 : w22.cell? ⟨gb261, 1, none⟩ = some (.int .u64 a0_1) := (blk_cell BK261.out 1).trans rfl; have hfz27_0 := blk_frozen BK261.out 0; have hfz27_1 := blk_frozen BK261.out 1) | ((with_reducible refine gate_callee (f := 22) rfl ?_); refine goesL_ (some 22) rfl rfl Try.func22 (by kernel_rfl) rfl #[.agg #[.int .u64 a1_0, .int .u64 a1_1], .agg #[.int .u64 a0_0, .int .u64 a0_1]] rfl (by (try simp only [List.map_toArray, List.map_cons, List.map_nil]); first | done | rfl | (simp only [List.length_drop, List.length_take]; rfl)) ?_; (with_reducible refine (wide_Sub.calls a1_0 a1_1 a0_0 a0_1 t267 t268 t269 _ A4.out).mono ?_); rintro e w28 ⟨rfl, hb⟩; refine ⟨_, rfl, ?_⟩; have n0_ := Aside0.mk (blk_below (g := gb261) (o := .cells #[.int .u64 a0_0, .int .u64 a0_1] 24 (0, 0)) (by (with_reducible repeat (first | refine blk_drewN ?_ _ | refine blk_drew ?_ | refine blk_alloc ?_ _)); refine blk_far ?_ NB261_266.out _; (with_reducible repeat (first | refine blk_drewN ?_ _ | refine blk_drew ?_ | refine blk_alloc ?_ _)); refine blk_far ?_ NB261_266.out _; (with_reducible repeat (first | refine blk_drewN ?_ _ | refine blk_drew ?_ | refine blk_alloc ?_ _)); exact BK261.out) hb); have n1_ := Aside0.mk (blk_below (g := gb262) (o := .cells #[.int .u64 a1_0, .int .u64 a1_1] 24 (0, 0)) (by (with_reducible repeat (first | refine blk_drewN ?_ _ | refine blk_drew ?_ | refine blk_alloc ?_ _)); refine blk_far ?_ NB262_266.out _; (with_reducible repeat (first | refine blk_drewN ?_ _ | refine blk_drew ?_ | refine blk_alloc ?_ _)); refine blk_far ?_ NB262_266.out _; (with_reducible repeat (first | refine blk_drewN ?_ _ | refine blk_drew ?_ | refine blk_alloc ?_ _)); exact BK262.out) hb); have n2_ := Aside0.mk (blk_below (g := gb266) (o := .cells #[.int .u64 t263, .int .u64 t264] 24 (0, 0)) (by (with_reducible repeat (first | refine blk_drewN ?_ _ | refine blk_drew ?_ | refine blk_alloc ?_ _)); refine blk_put (cs := #[.int .u64 t263, .int .u64 0]) ?_ 1 _ rfl; (with_reducible repeat (first | refine blk_drewN ?_ _ | refine blk_drew ?_ | refine blk_alloc ?_ _)); refine blk_put (cs := #[.int .u64 0, .int .u64 0]) ?_ 0 _ rfl; (with_reducible repeat (first | refine blk_drewN ?_ _ | refine blk_drew ?_ | refine blk_alloc ?_ _)); exact BK266.out) hb); have n3_ := Aside0.mk (below_step (by repeat (first | (with_reducible first | exact HB.out | apply below_alloc | apply pw_below_drewN | apply below_drew1 | refine below_set ?_ GE261.out | refine below_set ?_ GE262.out | refine below_set ?_ GE266.out) | exact HB.out)) hb); clear BK261; clear BK262; clear BK266; clear HB; have BK261 := n0_; have BK262 := n1_; have BK266 := n2_; have HB := n3_; clear n0_ n1_ n2_ n3_; (try clear hb); (try clear hb2); (try clear hk); (try clear hi)) | ((with_reducible refine gate_dst (N := 7) rfl ?_); (try (refine gate_guard (by rfl) ?_; dsimp only)); refine box_event ?hg (N := 7) ?hd (cs := #[.int .u64 0, .int .u64 0]) (t := 24) ?hr ?_; (case hd => rfl); (case hg => rfl); (case hr => first | (go_simp; done) | (go_simp; rfl)); intro gb270 hg w29 hbox hb; have n0_ := Aside0.mk (blk_below (g := gb261) (o := .cells #[.int .u64 a0_0, .int .u64 a0_1] 24 (0, 0)) (by (with_reducible repeat (first | refine blk_drewN ?_ _ | refine blk_drew ?_ | refine blk_alloc ?_ _)); exact BK261.out) hb); have n1_ := Aside0.mk (blk_below (g := gb262) (o := .cells #[.int .u64 a1_0, .int .u64 a1_1] 24 (0, 0)) (by (with_reducible repeat (first | refine blk_drewN ?_ _ | refine blk_drew ?_ | refine blk_alloc ?_ _)); exact BK262.out) hb); have n2_ := Aside0.mk (blk_below (g := gb266) (o := .cells #[.int .u64 t263, .int .u64 t264] 24 (0, 0)) (by (with_reducible repeat (first | refine blk_drewN ?_ _ | refine blk_drew ?_ | refine blk_alloc ?_ _)); exact BK266.out) hb); have n3_ := Aside0.mk (below_step (by repeat (first | (with_reducible first | exact HB.out | apply below_alloc | apply pw_below_drewN | apply below_drew1 | refine below_set ?_ GE261.out | refine below_set ?_ GE262.out | refine below_set ?_ GE266.out) | exact HB.out)) hb); have n4_ := Aside0.mk (hbox); have n5_ := Aside0.mk ((by rw [hg]; exact (below_size (by repeat (first | (with_reducible first | exact HB.out | apply below_alloc | apply pw_below_drewN | apply below_drew1 | refine below_set ?_ GE261.out | refine below_set ?_ GE262.out | refine below_set ?_ GE266.out) | exact HB.out))) : w.heap.size ≤ gb270)); have n6_ := Aside0.mk ((by rw [hg]; exact (below_size (by repeat (first | (with_reducible first | exact HB.out | apply below_alloc | apply pw_below_drewN | apply below_drew1 | refine below_set ?_ GE261.out | refine below_set ?_ GE262.out | refine below_set ?_ GE266.out) | exact HB.out))) : w.heap.size ≤ gb270)); have n7_ := Aside0.mk ((by rw [hg]; exact Nat.ne_of_lt (blk_lt (g := gb261) (o := .cells #[.int .u64 a0_0, .int .u64 a0_1] 24 (0, 0)) (by (with_reducible repeat (first | refine blk_drewN ?_ _ | refine blk_drew ?_ | refine blk_alloc ?_ _)); exact BK261.out)) : gb261 ≠ gb270)); have n8_ := Aside0.mk ((by rw [hg]; exact Nat.ne_of_gt (blk_lt (g := gb261) (o := .cells #[.int .u64 a0_0, .int .u64 a0_1] 24 (0, 0)) (by (with_reducible repeat (first | refine blk_drewN ?_ _ | refine blk_drew ?_ | refine blk_alloc ?_ _)); exact BK261.out)) : gb270 ≠ gb261)); have n9_ := Aside0.mk ((by rw [hg]; exact Nat.ne_of_lt (blk_lt (g := gb262) (o := .cells #[.int .u64 a1_0, .int .u64 a1_1] 24 (0, 0)) (by (with_reducible repeat (first | refine blk_drewN ?_ _ | refine blk_drew ?_ | refine blk_alloc ?_ _)); exact BK262.out)) : gb262 ≠ gb270)); have n10_ := Aside0.mk ((by rw [hg]; exact Nat.ne_of_gt (blk_lt (g := gb262) (o := .cells #[.int .u64 a1_0, .int .u64 a1_1] 24 (0, 0)) (by (with_reducible repeat (first | refine blk_drewN ?_ _ | refine blk_drew ?_ | refine blk_alloc ?_ _)); exact BK262.out)) : gb270 ≠ gb262)); have n11_ := Aside0.mk ((by rw [hg]; exact Nat.ne_of_lt (blk_lt (g := gb266) (o := .cells #[.int .u64 t263, .int .u64 t264] 24 (0, 0)) (by (with_reducible repeat (first | refine blk_drewN ?_ _ | refine blk_drew ?_ | refine blk_alloc ?_ _)); exact BK266.out)) : gb266 ≠ gb270)); have n12_ := Aside0.mk ((by rw [hg]; exact Nat.ne_of_gt (blk_lt (g := gb266) (o := .cells #[.int .u64 t263, .int .u64 t264] 24 (0, 0)) (by (with_reducible repeat (first | refine blk_drewN ?_ _ | refine blk_drew ?_ | refine blk_alloc ?_ _)); exact BK266.out)) : gb270 ≠ gb266)); clear BK261; clear BK262; clear BK266; clear HB; have BK261 := n0_; have BK262 := n1_; have BK266 := n2_; have HB := n3_; have BK270 := n4_; have GW270 := n5_; have GE270 := n6_; have NB261_270 := n7_; have NB270_261 := n8_; have NB262_270 := n9_; have NB270_262 := n10_; have NB266_270 := n11_; have NB270_266 := n12_; clear n0_ n1_ n2_ n3_ n4_ n5_ n6_ n7_ n8_ n9_ n10_ n11_ n12_; clear hb hbox hg; have hnb30 := NB270_261.out; have hnc30 := NB261_270.out; have hnb31 := NB270_262.out; have hnc31 := NB262_270.out; have hnb32 := NB270_266.out; have hnc32 := NB266_270.out; have hcz33_0 : w29.cell? ⟨gb270, 0, none⟩ = some (.int .u64 0) := (blk_cell BK270.out 0).trans rfl; have hcz33_1 : w29.cell? ⟨gb270, 1, none⟩ = some (.int .u64 0) := (blk_cell BK270.out 1).trans rfl; have hfz33_0 := blk_frozen BK270.out 0; have hfz33_1 := blk_frozen BK270.out 1; have hcz34_0 : w29.cell? ⟨gb261, 0, none⟩ = some (.int .u64 a0_0) := (blk_cell BK261.out 0).trans rfl; have hcz34_1 : w29.cell? ⟨gb261, 1, none⟩ = some (.int .u64 a0_1) := (blk_cell BK261.out 1).trans rfl; have hfz34_0 := blk_frozen BK261.out 0; have hfz34_1 := blk_frozen BK261.out 1; have hcz35_0 : w29.cell? ⟨gb262, 0, none⟩ = some (.int .u64 a1_0) := (blk_cell BK262.out 0).trans rfl; have hcz35_1 : w29.cell? ⟨gb262, 1, none⟩ = some (.int .u64 a1_1) := (blk_cell BK262.out 1).trans rfl; have hfz35_0 := blk_frozen BK262.out 0; have hfz35_1 := blk_frozen BK262.out 1) | ((with_reducible refine gate_callee (f := 24) rfl ?_); refine goesL_ (some 27) rfl rfl Try.func24 (by kernel_rfl) rfl #[.agg #[.int .u64 a0_0, .int .u64 a0_1], .agg #[.int .u64 a1_0, .int .u64 a1_1]] rfl (by (try simp only [List.map_toArray, List.map_cons, List.map_nil]); first | done | rfl | (simp only [List.length_drop, List.length_take]; rfl)) ?_; (with_reducible refine (wide_Cmp.calls a0_0 a0_1 a1_0 a1_1 t271 _ A5.out).mono ?_); rintro e w36 ⟨rfl, hb⟩; refine ⟨_, rfl, ?_⟩; have n0_ := Aside0.mk (blk_below (g := gb261) (o := .cells #[.int .u64 a0_0, .int .u64 a0_1] 24 (0, 0)) (by (with_reducible repeat (first | refine blk_drewN ?_ _ | refine blk_drew ?_ | refine blk_alloc ?_ _)); refine blk_far ?_ NB261_270.out _; (with_reducible repeat (first | refine blk_drewN ?_ _ | refine blk_drew ?_ | refine blk_alloc ?_ _)); refine blk_far ?_ NB261_270.out _; (with_reducible repeat (first | refine blk_drewN ?_ _ | refine blk_drew ?_ | refine blk_alloc ?_ _)); exact BK261.out) hb); have n1_ := Aside0.mk (blk_below (g := gb262) (o := .cells #[.int .u64 a1_0, .int .u64 a1_1] 24 (0, 0)) (by (with_reducible repeat (first | refine blk_drewN ?_ _ | refine blk_drew ?_ | refine blk_alloc ?_ _)); refine blk_far ?_ NB262_270.out _; (with_reducible repeat (first | refine blk_drewN ?_ _ | refine blk_drew ?_ | refine blk_alloc ?_ _)); refine blk_far ?_ NB262_270.out _; (with_reducible repeat (first | refine blk_drewN ?_ _ | refine blk_drew ?_ | refine blk_alloc ?_ _)); exact BK262.out) hb); have n2_ := Aside0.mk (blk_below (g := gb266) (o := .cells #[.int .u64 t263, .int .u64 t264] 24 (0, 0)) (by (with_reducible repeat (first | refine blk_drewN ?_ _ | refine blk_drew ?_ | refine blk_alloc ?_ _)); refine blk_far ?_ NB266_270.out _; (with_reducible repeat (first | refine blk_drewN ?_ _ | refine blk_drew ?_ | refine blk_alloc ?_ _)); refine blk_far ?_ NB266_270.out _; (with_reducible repeat (first | refine blk_drewN ?_ _ | refine blk_drew ?_ | refine blk_alloc ?_ _)); exact BK266.out) hb); have n3_ := Aside0.mk (blk_below (g := gb270) (o := .cells #[.int .u64 t267, .int .u64 t268] 24 (0, 0)) (by (with_reducible repeat (first | refine blk_drewN ?_ _ | refine blk_drew ?_ | refine blk_alloc ?_ _)); refine blk_put (cs := #[.int .u64 t267, .int .u64 0]) ?_ 1 _ rfl; (with_reducible repeat (first | refine blk_drewN ?_ _ | refine blk_drew ?_ | refine blk_alloc ?_ _)); refine blk_put (cs := #[.int .u64 0, .int .u64 0]) ?_ 0 _ rfl; (with_reducible repeat (first | refine blk_drewN ?_ _ | refine blk_drew ?_ | refine blk_alloc ?_ _)); exact BK270.out) hb); have n4_ := Aside0.mk (below_step (by repeat (first | (with_reducible first | exact HB.out | apply below_alloc | apply pw_below_drewN | apply below_drew1 | refine below_set ?_ GE261.out | refine below_set ?_ GE262.out | refine below_set ?_ GE266.out | refine below_set ?_ GE270.out) | exact HB.out)) hb); clear BK261; clear BK262; clear BK266; clear BK270; clear HB; have BK261 := n0_; have BK262 := n1_; have BK266 := n2_; have BK270 := n3_; have HB := n4_; clear n0_ n1_ n2_ n3_ n4_; (try clear hb); (try clear hb2); (try clear hk); (try clear hi)))
       have n0_ := Aside0.mk (blk_drew BK261.out)
       have n1_ := Aside0.mk (blk_drew BK262.out)
       have n2_ := Aside0.mk (blk_drew BK266.out)
       have n3_ := Aside0.mk (blk_drew BK270.out)
       have n4_ := Aside0.mk (below_drew1 HB.out)
       clear BK261
       clear BK262
       clear BK266
       clear BK270
       clear HB
       have BK261 := n0_
       have BK262 := n1_
       have BK266 := n2_
       have BK270 := n3_
       have HB := n4_
       clear n0_ n1_ n2_ n3_ n4_
       refine start_ (n := 6) (S := fun w' => w'.cell? ⟨gb261, 0, none⟩ = some (.int .u64 a0_0) ∧ w'.cell? ⟨gb261, 1, none⟩ = some (.int .u64 a0_1) ∧ w'.cell? ⟨gb262, 0, none⟩ = some (.int .u64 a1_0) ∧ w'.cell? ⟨gb262, 1, none⟩ = some (.int .u64 a1_1)) (ds := []) #[false, false, false, false, false, false] (by kernel_rfl) rfl rfl ⟨(blk_cell BK261.out 0).trans rfl, (blk_cell BK261.out 1).trans rfl, (blk_cell BK262.out 0).trans rfl, (blk_cell BK262.out 1).trans rfl⟩ (fun hHeld => ?_)
       generalize w36.drew = w37 at BK261 BK262 BK266 BK270 HB hHeld ⊢
       refine take_ (i := 0) (N := some 28) (v := ?_) (a' := ?_) #[true, false, false, false, false, false] rfl rfl (by kernel_rfl) (fun _ _ _ h => h) (Or.inl ⟨by rfl, ?_⟩) hHeld ?_ ?_
       rotate_left
       ·
        rintro w' ⟨s0, s1, s2, s3⟩
        go_simp
        with_reducible rfl
       rotate_left
       ·
        simp only [Act.put, List.setIfInBounds_toArray, List.set_cons_zero, List.set_cons_succ, i64_w, i32_w]
        rfl
       refine take_ (i := 2) (N := some 30) (v := ?_) (a' := ?_) #[true, false, true, false, false, false] rfl rfl (by kernel_rfl) (fun _ _ _ h => h) (Or.inl ⟨by rfl, ?_⟩) hHeld ?_ ?_
       rotate_left
       ·
        rintro w' ⟨s0, s1, s2, s3⟩
        go_simp
        with_reducible rfl
       rotate_left
       ·
        simp only [Act.put, List.setIfInBounds_toArray, List.set_cons_zero, List.set_cons_succ, i64_w, i32_w]
        rfl
       refine one_ (i := 1) (N := some 29) #[true, true, true, false, false, false] rfl rfl (by kernel_rfl) (by decide) (fun K hK => ?_)
       refine goes_ Try.func14 (by kernel_rfl) rfl #[.agg #[.int .u64 a0_0, .int .u64 a0_1]] (by rfl) rfl rfl (by (try simp only [List.map_toArray, List.map_cons, List.map_nil]); first | done | rfl | (simp only [List.length_drop, List.length_take]; rfl)) ?_
       with_reducible refine (wide_Text.calls a0_0 a0_1 t272 _ A6.out).mono ?_
       rintro e w38 ⟨rfl, hb⟩
       refine ⟨_, rfl, ?_⟩
       have n0_ := Aside0.mk (blk_below (g := gb261) (o := .cells #[.int .u64 a0_0, .int .u64 a0_1] 24 (0, 0)) (by (with_reducible repeat (first | refine blk_drewN ?_ _ | refine blk_drew ?_ | refine blk_alloc ?_ _)); exact BK261.out) hb)
       have n1_ := Aside0.mk (blk_below (g := gb262) (o := .cells #[.int .u64 a1_0, .int .u64 a1_1] 24 (0, 0)) (by (with_reducible repeat (first | refine blk_drewN ?_ _ | refine blk_drew ?_ | refine blk_alloc ?_ _)); exact BK262.out) hb)
       have n2_ := Aside0.mk (blk_below (g := gb266) (o := .cells #[.int .u64 t263, .int .u64 t264] 24 (0, 0)) (by (with_reducible repeat (first | refine blk_drewN ?_ _ | refine blk_drew ?_ | refine blk_alloc ?_ _)); exact BK266.out) hb)
       have n3_ := Aside0.mk (blk_below (g := gb270) (o := .cells #[.int .u64 t267, .int .u64 t268] 24 (0, 0)) (by (with_reducible repeat (first | refine blk_drewN ?_ _ | refine blk_drew ?_ | refine blk_alloc ?_ _)); exact BK270.out) hb)
       have n4_ := Aside0.mk (below_step (by repeat (first | (with_reducible first | exact HB.out | apply below_alloc | apply pw_below_drewN | apply below_drew1 | refine below_set ?_ GE261.out | refine below_set ?_ GE262.out | refine below_set ?_ GE266.out | refine below_set ?_ GE270.out) | exact HB.out)) hb)
       clear BK261
       clear BK262
       clear BK266
       clear BK270
       clear HB
       have BK261 := n0_
       have BK262 := n1_
       have BK266 := n2_
       have BK270 := n3_
       have HB := n4_
       clear n0_ n1_ n2_ n3_ n4_
       (try clear hb)
       (try clear hb2)
       (try clear hk)
       (try clear hi)
       refine hK.out _ _ ⟨(blk_cell BK261.out 0).trans rfl, (blk_cell BK261.out 1).trans rfl, (blk_cell BK262.out 0).trans rfl, (blk_cell BK262.out 1).trans rfl⟩ (fun hHeld => ?_)
       clear hK K
       refine norm_ (a' := ?_) ?_ ?_
       rotate_left
       ·
        show Act.put _ (some 29) _ = _
        simp only [Act.put, List.setIfInBounds_toArray, List.set_cons_zero, List.set_cons_succ, i64_w, i32_w]
        rfl
       refine one_ (i := 3) (N := some 31) #[true, true, true, true, false, false] rfl rfl (by kernel_rfl) (by decide) (fun K hK => ?_)
       refine goes_ Try.func14 (by kernel_rfl) rfl #[.agg #[.int .u64 a1_0, .int .u64 a1_1]] (by rfl) rfl rfl (by (try simp only [List.map_toArray, List.map_cons, List.map_nil]); first | done | rfl | (simp only [List.length_drop, List.length_take]; rfl)) ?_
       with_reducible refine (wide_Text.calls a1_0 a1_1 t273 _ A7.out).mono ?_
       rintro e w39 ⟨rfl, hb⟩
       refine ⟨_, rfl, ?_⟩
       have n0_ := Aside0.mk (blk_below (g := gb261) (o := .cells #[.int .u64 a0_0, .int .u64 a0_1] 24 (0, 0)) (by (with_reducible repeat (first | refine blk_drewN ?_ _ | refine blk_drew ?_ | refine blk_alloc ?_ _)); exact BK261.out) hb)
       have n1_ := Aside0.mk (blk_below (g := gb262) (o := .cells #[.int .u64 a1_0, .int .u64 a1_1] 24 (0, 0)) (by (with_reducible repeat (first | refine blk_drewN ?_ _ | refine blk_drew ?_ | refine blk_alloc ?_ _)); exact BK262.out) hb)
       have n2_ := Aside0.mk (blk_below (g := gb266) (o := .cells #[.int .u64 t263, .int .u64 t264] 24 (0, 0)) (by (with_reducible repeat (first | refine blk_drewN ?_ _ | refine blk_drew ?_ | refine blk_alloc ?_ _)); exact BK266.out) hb)
       have n3_ := Aside0.mk (blk_below (g := gb270) (o := .cells #[.int .u64 t267, .int .u64 t268] 24 (0, 0)) (by (with_reducible repeat (first | refine blk_drewN ?_ _ | refine blk_drew ?_ | refine blk_alloc ?_ _)); exact BK270.out) hb)
       have n4_ := Aside0.mk (below_step (by repeat (first | (with_reducible first | exact HB.out | apply below_alloc | apply pw_below_drewN | apply below_drew1 | refine below_set ?_ GE261.out | refine below_set ?_ GE262.out | refine below_set ?_ GE266.out | refine below_set ?_ GE270.out) | exact HB.out)) hb)
       clear BK261
       clear BK262
       clear BK266
       clear BK270
       clear HB
       have BK261 := n0_
       have BK262 := n1_
       have BK266 := n2_
       have BK270 := n3_
       have HB := n4_
       clear n0_ n1_ n2_ n3_ n4_
       (try clear hb)
       (try clear hb2)
       (try clear hk)
       (try clear hi)
       refine hK.out _ _ ⟨(blk_cell BK261.out 0).trans rfl, (blk_cell BK261.out 1).trans rfl, (blk_cell BK262.out 0).trans rfl, (blk_cell BK262.out 1).trans rfl⟩ (fun hHeld => ?_)
       clear hK K
       refine norm_ (a' := ?_) ?_ ?_
       rotate_left
       ·
        show Act.put _ (some 31) _ = _
        simp only [Act.put, List.setIfInBounds_toArray, List.set_cons_zero, List.set_cons_succ, i64_w, i32_w]
        rfl
       refine pure_ (i := 4) (N := some 10) (v := ?_) (a' := ?_) #[true, true, true, true, true, false] rfl rfl (by kernel_rfl) (fun _ _ _ h => h) (Or.inl ⟨by rfl, ?_⟩) ?_ ?_
       rotate_left
       ·
        intro w'
        go_simp
        with_reducible rfl
       rotate_left
       ·
        simp only [Act.put, List.setIfInBounds_toArray, List.set_cons_zero, List.set_cons_succ, i64_w, i32_w]
        rfl
       refine pure_ (i := 5) (N := some 11) (v := ?_) (a' := ?_) #[true, true, true, true, true, true] rfl rfl (by kernel_rfl) (fun _ _ _ h => h) (Or.inl ⟨by rfl, ?_⟩) ?_ ?_
       rotate_left
       ·
        intro w'
        go_simp
        with_reducible rfl
       rotate_left
       ·
        simp only [Act.put, List.setIfInBounds_toArray, List.set_cons_zero, List.set_cons_succ, i64_w, i32_w]
        rfl
       refine done_ (by kernel_rfl) ?_
       have hcz40_0 : w39.cell? ⟨gb261, 0, none⟩ = some (.int .u64 a0_0) := (blk_cell BK261.out 0).trans rfl
       have hcz40_1 : w39.cell? ⟨gb261, 1, none⟩ = some (.int .u64 a0_1) := (blk_cell BK261.out 1).trans rfl
       have hfz40_0 := blk_frozen BK261.out 0
       have hfz40_1 := blk_frozen BK261.out 1
       have hcz41_0 : w39.cell? ⟨gb262, 0, none⟩ = some (.int .u64 a1_0) := (blk_cell BK262.out 0).trans rfl
       have hcz41_1 : w39.cell? ⟨gb262, 1, none⟩ = some (.int .u64 a1_1) := (blk_cell BK262.out 1).trans rfl
       have hfz41_0 := blk_frozen BK262.out 0
       have hfz41_1 := blk_frozen BK262.out 1
       try go_wp2_with (first | (go_at_call 24; (with_reducible refine (wide_Cmp.calls a1_0 a1_1 a0_0 a0_1 t274 _ A13.out).mono ?_); rintro e w42 ⟨rfl, hb⟩; have n0_ := Aside0.mk (blk_below (g := gb261) (o := .cells #[.int .u64 a0_0, .int .u64 a0_1] 24 (0, 0)) (by (with_reducible repeat (first | refine blk_drewN ?_ _ | refine blk_drew ?_ | refine blk_alloc ?_ _)); exact BK261.out) hb); have n1_ := Aside0.mk (blk_below (g := gb262) (o := .cells #[.int .u64 a1_0, .int .u64 a1_1] 24 (0, 0)) (by (with_reducible repeat (first | refine blk_drewN ?_ _ | refine blk_drew ?_ | refine blk_alloc ?_ _)); exact BK262.out) hb); have n2_ := Aside0.mk (blk_below (g := gb266) (o := .cells #[.int .u64 t263, .int .u64 t264] 24 (0, 0)) (by (with_reducible repeat (first | refine blk_drewN ?_ _ | refine blk_drew ?_ | refine blk_alloc ?_ _)); exact BK266.out) hb); have n3_ := Aside0.mk (blk_below (g := gb270) (o := .cells #[.int .u64 t267, .int .u64 t268] 24 (0, 0)) (by (with_reducible repeat (first | refine blk_drewN ?_ _ | refine blk_drew ?_ | refine blk_alloc ?_ _)); exact BK270.out) hb); have n4_ := Aside0.mk (below_step (by repeat (first | (with_reducible first | exact HB.out | apply below_alloc | apply pw_below_drewN | apply below_drew1 | refine below_set ?_ GE261.out | refine below_set ?_ GE262.out | refine below_set ?_ GE266.out | refine below_set ?_ GE270.out) | exact HB.out)) hb); clear BK261; clear BK262; clear BK266; clear BK270; clear HB; have BK261 := n0_; have BK262 := n1_; have BK266 := n2_; have BK270 := n3_; have HB := n4_; clear n0_ n1_ n2_ n3_ n4_; (try clear hb); (try clear hb2); (try clear hk); (try clear hi)) | (go_at_call 11; (with_reducible refine (samphirelaw01_awake.calls  t275 _ A15.out).mono ?_); rintro e w43 ⟨rfl, hb⟩; have n0_ := Aside0.mk (blk_below (g := gb261) (o := .cells #[.int .u64 a0_0, .int .u64 a0_1] 24 (0, 0)) (by (with_reducible repeat (first | refine blk_drewN ?_ _ | refine blk_drew ?_ | refine blk_alloc ?_ _)); exact BK261.out) hb); have n1_ := Aside0.mk (blk_below (g := gb262) (o := .cells #[.int .u64 a1_0, .int .u64 a1_1] 24 (0, 0)) (by (with_reducible repeat (first | refine blk_drewN ?_ _ | refine blk_drew ?_ | refine blk_alloc ?_ _)); exact BK262.out) hb); have n2_ := Aside0.mk (blk_below (g := gb266) (o := .cells #[.int .u64 t263, .int .u64 t264] 24 (0, 0)) (by (with_reducible repeat (first | refine blk_drewN ?_ _ | refine blk_drew ?_ | refine blk_alloc ?_ _)); exact BK266.out) hb); have n3_ := Aside0.mk (blk_below (g := gb270) (o := .cells #[.int .u64 t267, .int .u64 t268] 24 (0, 0)) (by (with_reducible repeat (first | refine blk_drewN ?_ _ | refine blk_drew ?_ | refine blk_alloc ?_ _)); exact BK270.out) hb); have n4_ := Aside0.mk (below_step (by repeat (first | (with_reducible first | exact HB.out | apply below_alloc | apply pw_below_drewN | apply below_drew1 | refine below_set ?_ GE261.out | refine below_set ?_ GE262.out | refine below_set ?_ GE266.out | refine below_set ?_ GE270.out) | exact HB.out)) hb); clear BK261; clear BK262; clear BK266; clear BK270; clear HB; have BK261 := n0_; have BK262 := n1_; have BK266 := n2_; have BK270 := n3_; have HB := n4_; clear n0_ n1_ n2_ n3_ n4_; (try clear hb); (try clear hb2); (try clear hk); (try clear hi)))
       go_ret
       exact ⟨by first | rfl | (simp [errW_none, errW_some] <;> rfl) | (simp [*, errW_none, errW_some] <;> rfl), by repeat (first | (with_reducible first | exact HB.out | apply below_alloc | apply pw_below_drewN | apply below_drew1 | refine below_set ?_ GE261.out | refine below_set ?_ GE262.out | refine below_set ?_ GE266.out | refine below_set ?_ GE270.out) | exact HB.out)⟩
      ·
       rw [if_neg c14] at H
       exact absurd H (by simp)
     ·
      rw [if_neg c12] at H
      exact absurd H (by simp)
    ·
     rw [if_neg c11] at H
     exact absurd H (by simp)
   ·
    rw [if_neg c10] at H
    exact absurd H (by simp)
  ·
   rw [if_neg c9] at H
   exact absurd H (by simp)
 ·
  rw [if_neg c8] at H
  have c8b0 : decide ((t272.size : Int) < (t273.size : Int)) = false := decide_eq_false c8
  have c8b1 : decide (t272.size < t273.size) = false := decide_eq_false (fun h => c8 (Int.ofNat_lt.mpr h))
  clear c8
  by_cases c44 : (t272.size : Int) = (t273.size : Int)
  ·
   rw [if_pos c44] at H
   have c44b0 : ((t272.size : Int) == (t273.size : Int)) = true := beq_iff_eq.mpr c44
   have c44b1 : ((t272.size : Int) != (t273.size : Int)) = false := bne_eq_false_iff_eq.mpr c44
   have c44b2 : (t272.size == t273.size) = true := by first | simpa using c44 | (simp at c44 ⊢; omega)
   clear c44
   by_cases c45 : ((decide (t271 ≥ 0)) == t265) = true
   ·
    rw [if_pos c45] at H
    have c45b0 : ((decide (t271 ≥ 0)) == t265) = true := c45
    (try (have c45b1 : decide ((decide (t271 ≥ 0)) = t265) = true := by simpa using c45))
    (try (have c45b2 : ((decide (t271 ≥ 0)) == t265) = true := by simpa using c45))
    clear c45
    by_cases c46 : ((decide (t271 ≤ 0)) == t269) = true
    ·
     rw [if_pos c46] at H
     have c46b0 : ((decide (t271 ≤ 0)) == t269) = true := c46
     (try (have c46b1 : decide ((decide (t271 ≤ 0)) = t269) = true := by simpa using c46))
     (try (have c46b2 : ((decide (t271 ≤ 0)) == t269) = true := by simpa using c46))
     clear c46
     by_cases c47 : ((t271 == 0) == (a0_0 == a1_0 && (a0_1 == a1_1))) = true
     ·
      rw [if_pos c47] at H
      have c47b0 : ((t271 == 0) == (a0_0 == a1_0 && (a0_1 == a1_1))) = true := c47
      (try (have c47b1 : decide ((t271 == 0) = (a0_0 == a1_0 && (a0_1 == a1_1))) = true := by simpa using c47))
      (try (have c47b2 : ((t271 == 0) == (a0_0 == a1_0 && (a0_1 == a1_1))) = true := by simpa using c47))
      clear c47
      by_cases c48 : ((decide (t271 < 0)) == (Op.bytesLess t272.toList t273.toList)) = true
      ·
       rw [if_pos c48] at H
       have c48b0 : ((decide (t271 < 0)) == (Op.bytesLess t272.toList t273.toList)) = true := c48
       (try (have c48b1 : decide ((decide (t271 < 0)) = (Op.bytesLess t272.toList t273.toList)) = true := by simpa using c48))
       (try (have c48b2 : ((decide (t271 < 0)) == (Op.bytesLess t272.toList t273.toList)) = true := by simpa using c48))
       clear c48
       replace H := Option.bind_eq_some_iff.mp H
       obtain ⟨t276, A490, H⟩ := H
       replace H : (if t271 = (wrap64 (-t276)) then ((samphirelaw01_awake.f).bind fun t277 => (some t277)) else (none)) = some r := H
       have A49 := Aside0.mk A490
       clear A490
       by_cases c50 : t271 = (wrap64 (-t276))
       ·
        rw [if_pos c50] at H
        have c50b0 : (t271 == (wrap64 (-t276))) = true := beq_iff_eq.mpr c50
        have c50b1 : (t271 != (wrap64 (-t276))) = false := bne_eq_false_iff_eq.mpr c50
        clear c50
        replace H := Option.bind_eq_some_iff.mp H
        obtain ⟨t277, A510, H⟩ := H
        replace H : (some t277) = some r := H
        have A51 := Aside0.mk A510
        clear A510
        obtain rfl := Option.some.inj H
        go_enter Try.func10, Try.ntmps10
        try go_wp2_with (first | ((with_reducible refine gate_dst (N := 2) rfl ?_); (try (refine gate_guard (by rfl) ?_; dsimp only)); refine box_event ?hg (N := 2) ?hd (cs := #[.int .u64 a0_0, .int .u64 a0_1]) (t := 24) ?hr ?_; (case hd => rfl); (case hg => rfl); (case hr => first | (go_simp; done) | (go_simp; rfl)); intro gb261 hg w52 hbox hb; have n0_ := Aside0.mk (below_step (by repeat (first | (with_reducible first | exact HB.out | apply below_alloc | apply pw_below_drewN | apply below_drew1) | exact HB.out)) hb); have n1_ := Aside0.mk (hbox); have n2_ := Aside0.mk ((by rw [hg]; exact (below_size (by repeat (first | (with_reducible first | exact HB.out | apply below_alloc | apply pw_below_drewN | apply below_drew1) | exact HB.out))) : w.heap.size ≤ gb261)); have n3_ := Aside0.mk ((by rw [hg]; exact (below_size (by repeat (first | (with_reducible first | exact HB.out | apply below_alloc | apply pw_below_drewN | apply below_drew1) | exact HB.out))) : w.heap.size ≤ gb261)); clear HB; have HB := n0_; have BK261 := n1_; have GW261 := n2_; have GE261 := n3_; clear n0_ n1_ n2_ n3_; clear hb hbox hg) | ((with_reducible refine gate_dst (N := 3) rfl ?_); (try (refine gate_guard (by rfl) ?_; dsimp only)); refine box_event ?hg (N := 3) ?hd (cs := #[.int .u64 a1_0, .int .u64 a1_1]) (t := 24) ?hr ?_; (case hd => rfl); (case hg => rfl); (case hr => first | (go_simp; done) | (go_simp; rfl)); intro gb262 hg w53 hbox hb; have n0_ := Aside0.mk (blk_below (g := gb261) (o := .cells #[.int .u64 a0_0, .int .u64 a0_1] 24 (0, 0)) (by (with_reducible repeat (first | refine blk_drewN ?_ _ | refine blk_drew ?_ | refine blk_alloc ?_ _)); exact BK261.out) hb); have n1_ := Aside0.mk (below_step (by repeat (first | (with_reducible first | exact HB.out | apply below_alloc | apply pw_below_drewN | apply below_drew1 | refine below_set ?_ GE261.out) | exact HB.out)) hb); have n2_ := Aside0.mk (hbox); have n3_ := Aside0.mk ((by rw [hg]; exact (below_size (by repeat (first | (with_reducible first | exact HB.out | apply below_alloc | apply pw_below_drewN | apply below_drew1 | refine below_set ?_ GE261.out) | exact HB.out))) : w.heap.size ≤ gb262)); have n4_ := Aside0.mk ((by rw [hg]; exact (below_size (by repeat (first | (with_reducible first | exact HB.out | apply below_alloc | apply pw_below_drewN | apply below_drew1 | refine below_set ?_ GE261.out) | exact HB.out))) : w.heap.size ≤ gb262)); have n5_ := Aside0.mk ((by rw [hg]; exact Nat.ne_of_lt (blk_lt (g := gb261) (o := .cells #[.int .u64 a0_0, .int .u64 a0_1] 24 (0, 0)) (by (with_reducible repeat (first | refine blk_drewN ?_ _ | refine blk_drew ?_ | refine blk_alloc ?_ _)); exact BK261.out)) : gb261 ≠ gb262)); have n6_ := Aside0.mk ((by rw [hg]; exact Nat.ne_of_gt (blk_lt (g := gb261) (o := .cells #[.int .u64 a0_0, .int .u64 a0_1] 24 (0, 0)) (by (with_reducible repeat (first | refine blk_drewN ?_ _ | refine blk_drew ?_ | refine blk_alloc ?_ _)); exact BK261.out)) : gb262 ≠ gb261)); clear BK261; clear HB; have BK261 := n0_; have HB := n1_; have BK262 := n2_; have GW262 := n3_; have GE262 := n4_; have NB261_262 := n5_; have NB262_261 := n6_; clear n0_ n1_ n2_ n3_ n4_ n5_ n6_; clear hb hbox hg; have hnb54 := NB261_262.out; have hnc54 := NB262_261.out; have hcz55_0 : w53.cell? ⟨gb261, 0, none⟩ = some (.int .u64 a0_0) := (blk_cell BK261.out 0).trans rfl; have hcz55_1 : w53.cell? ⟨gb261, 1, none⟩ = some (.int .u64 a0_1) := (blk_cell BK261.out 1).trans rfl; have hfz55_0 := blk_frozen BK261.out 0; have hfz55_1 := blk_frozen BK261.out 1; have hcz56_0 : w53.cell? ⟨gb262, 0, none⟩ = some (.int .u64 a1_0) := (blk_cell BK262.out 0).trans rfl; have hcz56_1 : w53.cell? ⟨gb262, 1, none⟩ = some (.int .u64 a1_1) := (blk_cell BK262.out 1).trans rfl; have hfz56_0 := blk_frozen BK262.out 0; have hfz56_1 := blk_frozen BK262.out 1) | ((with_reducible refine gate_callee (f := 22) rfl ?_); refine goesL_ (some 16) rfl rfl Try.func22 (by kernel_rfl) rfl #[.agg #[.int .u64 a0_0, .int .u64 a0_1], .agg #[.int .u64 a1_0, .int .u64 a1_1]] rfl (by (try simp only [List.map_toArray, List.map_cons, List.map_nil]); first | done | rfl | (simp only [List.length_drop, List.length_take]; rfl)) ?_; (with_reducible refine (wide_Sub.calls a0_0 a0_1 a1_0 a1_1 t263 t264 t265 _ A3.out).mono ?_); rintro e w57 ⟨rfl, hb⟩; refine ⟨_, rfl, ?_⟩; have n0_ := Aside0.mk (blk_below (g := gb261) (o := .cells #[.int .u64 a0_0, .int .u64 a0_1] 24 (0, 0)) (by (with_reducible repeat (first | refine blk_drewN ?_ _ | refine blk_drew ?_ | refine blk_alloc ?_ _)); exact BK261.out) hb); have n1_ := Aside0.mk (blk_below (g := gb262) (o := .cells #[.int .u64 a1_0, .int .u64 a1_1] 24 (0, 0)) (by (with_reducible repeat (first | refine blk_drewN ?_ _ | refine blk_drew ?_ | refine blk_alloc ?_ _)); exact BK262.out) hb); have n2_ := Aside0.mk (below_step (by repeat (first | (with_reducible first | exact HB.out | apply below_alloc | apply pw_below_drewN | apply below_drew1 | refine below_set ?_ GE261.out | refine below_set ?_ GE262.out) | exact HB.out)) hb); clear BK261; clear BK262; clear HB; have BK261 := n0_; have BK262 := n1_; have HB := n2_; clear n0_ n1_ n2_; (try clear hb); (try clear hb2); (try clear hk); (try clear hi)) | ((with_reducible refine gate_dst (N := 5) rfl ?_); (try (refine gate_guard (by rfl) ?_; dsimp only)); refine box_event ?hg (N := 5) ?hd (cs := #[.int .u64 0, .int .u64 0]) (t := 24) ?hr ?_; (case hd => rfl); (case hg => rfl); (case hr => first | (go_simp; done) | (go_simp; rfl)); intro gb266 hg w58 hbox hb; have n0_ := Aside0.mk (blk_below (g := gb261) (o := .cells #[.int .u64 a0_0, .int .u64 a0_1] 24 (0, 0)) (by (with_reducible repeat (first | refine blk_drewN ?_ _ | refine blk_drew ?_ | refine blk_alloc ?_ _)); exact BK261.out) hb); have n1_ := Aside0.mk (blk_below (g := gb262) (o := .cells #[.int .u64 a1_0, .int .u64 a1_1] 24 (0, 0)) (by (with_reducible repeat (first | refine blk_drewN ?_ _ | refine blk_drew ?_ | refine blk_alloc ?_ _)); exact BK262.out) hb); have n2_ := Aside0.mk (below_step (by repeat (first | (with_reducible first | exact HB.out | apply below_alloc | apply pw_below_drewN | apply below_drew1 | refine below_set ?_ GE261.out | refine below_set ?_ GE262.out) | exact HB.out)) hb); have n3_ := Aside0.mk (hbox); have n4_ := Aside0.mk ((by rw [hg]; exact (below_size (by repeat (first | (with_reducible first | exact HB.out | apply below_alloc | apply pw_below_drewN | apply below_drew1 | refine below_set ?_ GE261.out | refine below_set ?_ GE262.out) | exact HB.out))) : w.heap.size ≤ gb266)); have n5_ := Aside0.mk ((by rw [hg]; exact (below_size (by repeat (first | (with_reducible first | exact HB.out | apply below_alloc | apply pw_below_drewN | apply below_drew1 | refine below_set ?_ GE261.out | refine below_set ?_ GE262.out) | exact HB.out))) : w.heap.size ≤ gb266)); have n6_ := Aside0.mk ((by rw [hg]; exact Nat.ne_of_lt (blk_lt (g := gb261) (o := .cells #[.int .u64 a0_0, .int .u64 a0_1] 24 (0, 0)) (by (with_reducible repeat (first | refine blk_drewN ?_ _ | refine blk_drew ?_ | refine blk_alloc ?_ _)); exact BK261.out)) : gb261 ≠ gb266)); have n7_ := Aside0.mk ((by rw [hg]; exact Nat.ne_of_gt (blk_lt (g := gb261) (o := .cells #[.int .u64 a0_0, .int .u64 a0_1] 24 (0, 0)) (by (with_reducible repeat (first | refine blk_drewN ?_ _ | refine blk_drew ?_ | refine blk_alloc ?_ _)); exact BK261.out)) : gb266 ≠ gb261)); have n8_ := Aside0.mk ((by rw [hg]; exact Nat.ne_of_lt (blk_lt (g := gb262) (o := .cells #[.int .u64 a1_0, .int .u64 a1_1] 24 (0, 0)) (by (with_reducible repeat (first | refine blk_drewN ?_ _ | refine blk_drew ?_ | refine blk_alloc ?_ _)); exact BK262.out)) : gb262 ≠ gb266)); have n9_ := Aside0.mk ((by rw [hg]; exact Nat.ne_of_gt (blk_lt (g := gb262) (o := .cells #[.int .u64 a1_0, .int .u64 a1_1] 24 (0, 0)) (by (with_reducible repeat (first | refine blk_drewN ?_ _ | refine blk_drew ?_ | refine blk_alloc ?_ _)); exact BK262.out)) : gb266 ≠ gb262)); clear BK261; clear BK262; clear HB; have BK261 := n0_; have BK262 := n1_; have HB := n2_; have BK266 := n3_; have GW266 := n4_; have GE266 := n5_; have NB261_266 := n6_; have NB266_261 := n7_; have NB262_266 := n8_; have NB266_262 := n9_; clear n0_ n1_ n2_ n3_ n4_ n5_ n6_ n7_ n8_ n9_; clear hb hbox hg; have hnb59 := NB266_261.out; have hnc59 := NB261_266.out; have hnb60 := NB266_262.out; have hnc60 := NB262_266.out; have hcz61_0 : w58.cell? ⟨gb266, 0, none⟩ = some (.int .u64 0) := (blk_cell BK266.out 0).trans rfl; have hcz61_1 : w58.cell? ⟨gb266, 1, none⟩ = some (.int .u64 0) := (blk_cell BK266.out 1).trans rfl; have hfz61_0 := blk_frozen BK266.out 0; have hfz61_1 := blk_frozen BK266.out 1; have hcz62_0 : w58.cell? ⟨gb262, 0, none⟩ = some (.int .u64 a1_0) := (blk_cell BK262.out 0).trans rfl; have hcz62_1 : w58.cell? ⟨gb262, 1, none⟩ = some (.int .u64 a1_1) := (blk_cell BK262.out 1).trans rfl; have hfz62_0 := blk_frozen BK262.out 0; have hfz62_1 := blk_frozen BK262.out 1; have hcz63_0 : w58.cell? ⟨gb261, 0, none⟩ = some (.int .u64 a0_0) := (blk_cell BK261.out 0).trans rfl; have hcz63_1 : w58.cell? ⟨gb261, 1, none⟩ = some (.int .u64 a0_1) := (blk_cell BK261.out 1).trans rfl; have hfz63_0 := blk_frozen BK261.out 0; have hfz63_1 := blk_frozen BK261.out 1) | ((with_reducible refine gate_callee (f := 22) rfl ?_); refine goesL_ (some 22) rfl rfl Try.func22 (by kernel_rfl) rfl #[.agg #[.int .u64 a1_0, .int .u64 a1_1], .agg #[.int .u64 a0_0, .int .u64 a0_1]] rfl (by (try simp only [List.map_toArray, List.map_cons, List.map_nil]); first | done | rfl | (simp only [List.length_drop, List.length_take]; rfl)) ?_; (with_reducible refine (wide_Sub.calls a1_0 a1_1 a0_0 a0_1 t267 t268 t269 _ A4.out).mono ?_); rintro e w64 ⟨rfl, hb⟩; refine ⟨_, rfl, ?_⟩; have n0_ := Aside0.mk (blk_below (g := gb261) (o := .cells #[.int .u64 a0_0, .int .u64 a0_1] 24 (0, 0)) (by (with_reducible repeat (first | refine blk_drewN ?_ _ | refine blk_drew ?_ | refine blk_alloc ?_ _)); refine blk_far ?_ NB261_266.out _; (with_reducible repeat (first | refine blk_drewN ?_ _ | refine blk_drew ?_ | refine blk_alloc ?_ _)); refine blk_far ?_ NB261_266.out _; (with_reducible repeat (first | refine blk_drewN ?_ _ | refine blk_drew ?_ | refine blk_alloc ?_ _)); exact BK261.out) hb); have n1_ := Aside0.mk (blk_below (g := gb262) (o := .cells #[.int .u64 a1_0, .int .u64 a1_1] 24 (0, 0)) (by (with_reducible repeat (first | refine blk_drewN ?_ _ | refine blk_drew ?_ | refine blk_alloc ?_ _)); refine blk_far ?_ NB262_266.out _; (with_reducible repeat (first | refine blk_drewN ?_ _ | refine blk_drew ?_ | refine blk_alloc ?_ _)); refine blk_far ?_ NB262_266.out _; (with_reducible repeat (first | refine blk_drewN ?_ _ | refine blk_drew ?_ | refine blk_alloc ?_ _)); exact BK262.out) hb); have n2_ := Aside0.mk (blk_below (g := gb266) (o := .cells #[.int .u64 t263, .int .u64 t264] 24 (0, 0)) (by (with_reducible repeat (first | refine blk_drewN ?_ _ | refine blk_drew ?_ | refine blk_alloc ?_ _)); refine blk_put (cs := #[.int .u64 t263, .int .u64 0]) ?_ 1 _ rfl; (with_reducible repeat (first | refine blk_drewN ?_ _ | refine blk_drew ?_ | refine blk_alloc ?_ _)); refine blk_put (cs := #[.int .u64 0, .int .u64 0]) ?_ 0 _ rfl; (with_reducible repeat (first | refine blk_drewN ?_ _ | refine blk_drew ?_ | refine blk_alloc ?_ _)); exact BK266.out) hb); have n3_ := Aside0.mk (below_step (by repeat (first | (with_reducible first | exact HB.out | apply below_alloc | apply pw_below_drewN | apply below_drew1 | refine below_set ?_ GE261.out | refine below_set ?_ GE262.out | refine below_set ?_ GE266.out) | exact HB.out)) hb); clear BK261; clear BK262; clear BK266; clear HB; have BK261 := n0_; have BK262 := n1_; have BK266 := n2_; have HB := n3_; clear n0_ n1_ n2_ n3_; (try clear hb); (try clear hb2); (try clear hk); (try clear hi)) | ((with_reducible refine gate_dst (N := 7) rfl ?_); (try (refine gate_guard (by rfl) ?_; dsimp only)); refine box_event ?hg (N := 7) ?hd (cs := #[.int .u64 0, .int .u64 0]) (t := 24) ?hr ?_; (case hd => rfl); (case hg => rfl); (case hr => first | (go_simp; done) | (go_simp; rfl)); intro gb270 hg w65 hbox hb; have n0_ := Aside0.mk (blk_below (g := gb261) (o := .cells #[.int .u64 a0_0, .int .u64 a0_1] 24 (0, 0)) (by (with_reducible repeat (first | refine blk_drewN ?_ _ | refine blk_drew ?_ | refine blk_alloc ?_ _)); exact BK261.out) hb); have n1_ := Aside0.mk (blk_below (g := gb262) (o := .cells #[.int .u64 a1_0, .int .u64 a1_1] 24 (0, 0)) (by (with_reducible repeat (first | refine blk_drewN ?_ _ | refine blk_drew ?_ | refine blk_alloc ?_ _)); exact BK262.out) hb); have n2_ := Aside0.mk (blk_below (g := gb266) (o := .cells #[.int .u64 t263, .int .u64 t264] 24 (0, 0)) (by (with_reducible repeat (first | refine blk_drewN ?_ _ | refine blk_drew ?_ | refine blk_alloc ?_ _)); exact BK266.out) hb); have n3_ := Aside0.mk (below_step (by repeat (first | (with_reducible first | exact HB.out | apply below_alloc | apply pw_below_drewN | apply below_drew1 | refine below_set ?_ GE261.out | refine below_set ?_ GE262.out | refine below_set ?_ GE266.out) | exact HB.out)) hb); have n4_ := Aside0.mk (hbox); have n5_ := Aside0.mk ((by rw [hg]; exact (below_size (by repeat (first | (with_reducible first | exact HB.out | apply below_alloc | apply pw_below_drewN | apply below_drew1 | refine below_set ?_ GE261.out | refine below_set ?_ GE262.out | refine below_set ?_ GE266.out) | exact HB.out))) : w.heap.size ≤ gb270)); have n6_ := Aside0.mk ((by rw [hg]; exact (below_size (by repeat (first | (with_reducible first | exact HB.out | apply below_alloc | apply pw_below_drewN | apply below_drew1 | refine below_set ?_ GE261.out | refine below_set ?_ GE262.out | refine below_set ?_ GE266.out) | exact HB.out))) : w.heap.size ≤ gb270)); have n7_ := Aside0.mk ((by rw [hg]; exact Nat.ne_of_lt (blk_lt (g := gb261) (o := .cells #[.int .u64 a0_0, .int .u64 a0_1] 24 (0, 0)) (by (with_reducible repeat (first | refine blk_drewN ?_ _ | refine blk_drew ?_ | refine blk_alloc ?_ _)); exact BK261.out)) : gb261 ≠ gb270)); have n8_ := Aside0.mk ((by rw [hg]; exact Nat.ne_of_gt (blk_lt (g := gb261) (o := .cells #[.int .u64 a0_0, .int .u64 a0_1] 24 (0, 0)) (by (with_reducible repeat (first | refine blk_drewN ?_ _ | refine blk_drew ?_ | refine blk_alloc ?_ _)); exact BK261.out)) : gb270 ≠ gb261)); have n9_ := Aside0.mk ((by rw [hg]; exact Nat.ne_of_lt (blk_lt (g := gb262) (o := .cells #[.int .u64 a1_0, .int .u64 a1_1] 24 (0, 0)) (by (with_reducible repeat (first | refine blk_drewN ?_ _ | refine blk_drew ?_ | refine blk_alloc ?_ _)); exact BK262.out)) : gb262 ≠ gb270)); have n10_ := Aside0.mk ((by rw [hg]; exact Nat.ne_of_gt (blk_lt (g := gb262) (o := .cells #[.int .u64 a1_0, .int .u64 a1_1] 24 (0, 0)) (by (with_reducible repeat (first | refine blk_drewN ?_ _ | refine blk_drew ?_ | refine blk_alloc ?_ _)); exact BK262.out)) : gb270 ≠ gb262)); have n11_ := Aside0.mk ((by rw [hg]; exact Nat.ne_of_lt (blk_lt (g := gb266) (o := .cells #[.int .u64 t263, .int .u64 t264] 24 (0, 0)) (by (with_reducible repeat (first | refine blk_drewN ?_ _ | refine blk_drew ?_ | refine blk_alloc ?_ _)); exact BK266.out)) : gb266 ≠ gb270)); have n12_ := Aside0.mk ((by rw [hg]; exact Nat.ne_of_gt (blk_lt (g := gb266) (o := .cells #[.int .u64 t263, .int .u64 t264] 24 (0, 0)) (by (with_reducible repeat (first | refine blk_drewN ?_ _ | refine blk_drew ?_ | refine blk_alloc ?_ _)); exact BK266.out)) : gb270 ≠ gb266)); clear BK261; clear BK262; clear BK266; clear HB; have BK261 := n0_; have BK262 := n1_; have BK266 := n2_; have HB := n3_; have BK270 := n4_; have GW270 := n5_; have GE270 := n6_; have NB261_270 := n7_; have NB270_261 := n8_; have NB262_270 := n9_; have NB270_262 := n10_; have NB266_270 := n11_; have NB270_266 := n12_; clear n0_ n1_ n2_ n3_ n4_ n5_ n6_ n7_ n8_ n9_ n10_ n11_ n12_; clear hb hbox hg; have hnb66 := NB270_261.out; have hnc66 := NB261_270.out; have hnb67 := NB270_262.out; have hnc67 := NB262_270.out; have hnb68 := NB270_266.out; have hnc68 := NB266_270.out; have hcz69_0 : w65.cell? ⟨gb270, 0, none⟩ = some (.int .u64 0) := (blk_cell BK270.out 0).trans rfl; have hcz69_1 : w65.cell? ⟨gb270, 1, none⟩ = some (.int .u64 0) := (blk_cell BK270.out 1).trans rfl; have hfz69_0 := blk_frozen BK270.out 0; have hfz69_1 := blk_frozen BK270.out 1; have hcz70_0 : w65.cell? ⟨gb261, 0, none⟩ = some (.int .u64 a0_0) := (blk_cell BK261.out 0).trans rfl; have hcz70_1 : w65.cell? ⟨gb261, 1, none⟩ = some (.int .u64 a0_1) := (blk_cell BK261.out 1).trans rfl; have hfz70_0 := blk_frozen BK261.out 0; have hfz70_1 := blk_frozen BK261.out 1; have hcz71_0 : w65.cell? ⟨gb262, 0, none⟩ = some (.int .u64 a1_0) := (blk_cell BK262.out 0).trans rfl; have hcz71_1 : w65.cell? ⟨gb262, 1, none⟩ = some (.int .u64 a1_1) := (blk_cell BK262.out 1).trans rfl; have hfz71_0 := blk_frozen BK262.out 0; have hfz71_1 := blk_frozen BK262.out 1) | ((with_reducible refine gate_callee (f := 24) rfl ?_); refine goesL_ (some 27) rfl rfl Try.func24 (by kernel_rfl) rfl #[.agg #[.int .u64 a0_0, .int .u64 a0_1], .agg #[.int .u64 a1_0, .int .u64 a1_1]] rfl (by (try simp only [List.map_toArray, List.map_cons, List.map_nil]); first | done | rfl | (simp only [List.length_drop, List.length_take]; rfl)) ?_; (with_reducible refine (wide_Cmp.calls a0_0 a0_1 a1_0 a1_1 t271 _ A5.out).mono ?_); rintro e w72 ⟨rfl, hb⟩; refine ⟨_, rfl, ?_⟩; have n0_ := Aside0.mk (blk_below (g := gb261) (o := .cells #[.int .u64 a0_0, .int .u64 a0_1] 24 (0, 0)) (by (with_reducible repeat (first | refine blk_drewN ?_ _ | refine blk_drew ?_ | refine blk_alloc ?_ _)); refine blk_far ?_ NB261_270.out _; (with_reducible repeat (first | refine blk_drewN ?_ _ | refine blk_drew ?_ | refine blk_alloc ?_ _)); refine blk_far ?_ NB261_270.out _; (with_reducible repeat (first | refine blk_drewN ?_ _ | refine blk_drew ?_ | refine blk_alloc ?_ _)); exact BK261.out) hb); have n1_ := Aside0.mk (blk_below (g := gb262) (o := .cells #[.int .u64 a1_0, .int .u64 a1_1] 24 (0, 0)) (by (with_reducible repeat (first | refine blk_drewN ?_ _ | refine blk_drew ?_ | refine blk_alloc ?_ _)); refine blk_far ?_ NB262_270.out _; (with_reducible repeat (first | refine blk_drewN ?_ _ | refine blk_drew ?_ | refine blk_alloc ?_ _)); refine blk_far ?_ NB262_270.out _; (with_reducible repeat (first | refine blk_drewN ?_ _ | refine blk_drew ?_ | refine blk_alloc ?_ _)); exact BK262.out) hb); have n2_ := Aside0.mk (blk_below (g := gb266) (o := .cells #[.int .u64 t263, .int .u64 t264] 24 (0, 0)) (by (with_reducible repeat (first | refine blk_drewN ?_ _ | refine blk_drew ?_ | refine blk_alloc ?_ _)); refine blk_far ?_ NB266_270.out _; (with_reducible repeat (first | refine blk_drewN ?_ _ | refine blk_drew ?_ | refine blk_alloc ?_ _)); refine blk_far ?_ NB266_270.out _; (with_reducible repeat (first | refine blk_drewN ?_ _ | refine blk_drew ?_ | refine blk_alloc ?_ _)); exact BK266.out) hb); have n3_ := Aside0.mk (blk_below (g := gb270) (o := .cells #[.int .u64 t267, .int .u64 t268] 24 (0, 0)) (by (with_reducible repeat (first | refine blk_drewN ?_ _ | refine blk_drew ?_ | refine blk_alloc ?_ _)); refine blk_put (cs := #[.int .u64 t267, .int .u64 0]) ?_ 1 _ rfl; (with_reducible repeat (first | refine blk_drewN ?_ _ | refine blk_drew ?_ | refine blk_alloc ?_ _)); refine blk_put (cs := #[.int .u64 0, .int .u64 0]) ?_ 0 _ rfl; (with_reducible repeat (first | refine blk_drewN ?_ _ | refine blk_drew ?_ | refine blk_alloc ?_ _)); exact BK270.out) hb); have n4_ := Aside0.mk (below_step (by repeat (first | (with_reducible first | exact HB.out | apply below_alloc | apply pw_below_drewN | apply below_drew1 | refine below_set ?_ GE261.out | refine below_set ?_ GE262.out | refine below_set ?_ GE266.out | refine below_set ?_ GE270.out) | exact HB.out)) hb); clear BK261; clear BK262; clear BK266; clear BK270; clear HB; have BK261 := n0_; have BK262 := n1_; have BK266 := n2_; have BK270 := n3_; have HB := n4_; clear n0_ n1_ n2_ n3_ n4_; (try clear hb); (try clear hb2); (try clear hk); (try clear hi)))
        have n0_ := Aside0.mk (blk_drew BK261.out)
        have n1_ := Aside0.mk (blk_drew BK262.out)
        have n2_ := Aside0.mk (blk_drew BK266.out)
        have n3_ := Aside0.mk (blk_drew BK270.out)
        have n4_ := Aside0.mk (below_drew1 HB.out)
        clear BK261
        clear BK262
        clear BK266
        clear BK270
        clear HB
        have BK261 := n0_
        have BK262 := n1_
        have BK266 := n2_
        have BK270 := n3_
        have HB := n4_
        clear n0_ n1_ n2_ n3_ n4_
        refine start_ (n := 6) (S := fun w' => w'.cell? ⟨gb261, 0, none⟩ = some (.int .u64 a0_0) ∧ w'.cell? ⟨gb261, 1, none⟩ = some (.int .u64 a0_1) ∧ w'.cell? ⟨gb262, 0, none⟩ = some (.int .u64 a1_0) ∧ w'.cell? ⟨gb262, 1, none⟩ = some (.int .u64 a1_1)) (ds := []) #[false, false, false, false, false, false] (by kernel_rfl) rfl rfl ⟨(blk_cell BK261.out 0).trans rfl, (blk_cell BK261.out 1).trans rfl, (blk_cell BK262.out 0).trans rfl, (blk_cell BK262.out 1).trans rfl⟩ (fun hHeld => ?_)
        generalize w72.drew = w73 at BK261 BK262 BK266 BK270 HB hHeld ⊢
        refine take_ (i := 0) (N := some 28) (v := ?_) (a' := ?_) #[true, false, false, false, false, false] rfl rfl (by kernel_rfl) (fun _ _ _ h => h) (Or.inl ⟨by rfl, ?_⟩) hHeld ?_ ?_
        rotate_left
        ·
         rintro w' ⟨s0, s1, s2, s3⟩
         go_simp
         with_reducible rfl
        rotate_left
        ·
         simp only [Act.put, List.setIfInBounds_toArray, List.set_cons_zero, List.set_cons_succ, i64_w, i32_w]
         rfl
        refine take_ (i := 2) (N := some 30) (v := ?_) (a' := ?_) #[true, false, true, false, false, false] rfl rfl (by kernel_rfl) (fun _ _ _ h => h) (Or.inl ⟨by rfl, ?_⟩) hHeld ?_ ?_
        rotate_left
        ·
         rintro w' ⟨s0, s1, s2, s3⟩
         go_simp
         with_reducible rfl
        rotate_left
        ·
         simp only [Act.put, List.setIfInBounds_toArray, List.set_cons_zero, List.set_cons_succ, i64_w, i32_w]
         rfl
        refine one_ (i := 1) (N := some 29) #[true, true, true, false, false, false] rfl rfl (by kernel_rfl) (by decide) (fun K hK => ?_)
        refine goes_ Try.func14 (by kernel_rfl) rfl #[.agg #[.int .u64 a0_0, .int .u64 a0_1]] (by rfl) rfl rfl (by (try simp only [List.map_toArray, List.map_cons, List.map_nil]); first | done | rfl | (simp only [List.length_drop, List.length_take]; rfl)) ?_
        with_reducible refine (wide_Text.calls a0_0 a0_1 t272 _ A6.out).mono ?_
        rintro e w74 ⟨rfl, hb⟩
        refine ⟨_, rfl, ?_⟩
        have n0_ := Aside0.mk (blk_below (g := gb261) (o := .cells #[.int .u64 a0_0, .int .u64 a0_1] 24 (0, 0)) (by (with_reducible repeat (first | refine blk_drewN ?_ _ | refine blk_drew ?_ | refine blk_alloc ?_ _)); exact BK261.out) hb)
        have n1_ := Aside0.mk (blk_below (g := gb262) (o := .cells #[.int .u64 a1_0, .int .u64 a1_1] 24 (0, 0)) (by (with_reducible repeat (first | refine blk_drewN ?_ _ | refine blk_drew ?_ | refine blk_alloc ?_ _)); exact BK262.out) hb)
        have n2_ := Aside0.mk (blk_below (g := gb266) (o := .cells #[.int .u64 t263, .int .u64 t264] 24 (0, 0)) (by (with_reducible repeat (first | refine blk_drewN ?_ _ | refine blk_drew ?_ | refine blk_alloc ?_ _)); exact BK266.out) hb)
        have n3_ := Aside0.mk (blk_below (g := gb270) (o := .cells #[.int .u64 t267, .int .u64 t268] 24 (0, 0)) (by (with_reducible repeat (first | refine blk_drewN ?_ _ | refine blk_drew ?_ | refine blk_alloc ?_ _)); exact BK270.out) hb)
        have n4_ := Aside0.mk (below_step (by repeat (first | (with_reducible first | exact HB.out | apply below_alloc | apply pw_below_drewN | apply below_drew1 | refine below_set ?_ GE261.out | refine below_set ?_ GE262.out | refine below_set ?_ GE266.out | refine below_set ?_ GE270.out) | exact HB.out)) hb)
        clear BK261
        clear BK262
        clear BK266
        clear BK270
        clear HB
        have BK261 := n0_
        have BK262 := n1_
        have BK266 := n2_
        have BK270 := n3_
        have HB := n4_
        clear n0_ n1_ n2_ n3_ n4_
        (try clear hb)
        (try clear hb2)
        (try clear hk)
        (try clear hi)
        refine hK.out _ _ ⟨(blk_cell BK261.out 0).trans rfl, (blk_cell BK261.out 1).trans rfl, (blk_cell BK262.out 0).trans rfl, (blk_cell BK262.out 1).trans rfl⟩ (fun hHeld => ?_)
        clear hK K
        refine norm_ (a' := ?_) ?_ ?_
        rotate_left
        ·
         show Act.put _ (some 29) _ = _
         simp only [Act.put, List.setIfInBounds_toArray, List.set_cons_zero, List.set_cons_succ, i64_w, i32_w]
         rfl
        refine one_ (i := 3) (N := some 31) #[true, true, true, true, false, false] rfl rfl (by kernel_rfl) (by decide) (fun K hK => ?_)
        refine goes_ Try.func14 (by kernel_rfl) rfl #[.agg #[.int .u64 a1_0, .int .u64 a1_1]] (by rfl) rfl rfl (by (try simp only [List.map_toArray, List.map_cons, List.map_nil]); first | done | rfl | (simp only [List.length_drop, List.length_take]; rfl)) ?_
        with_reducible refine (wide_Text.calls a1_0 a1_1 t273 _ A7.out).mono ?_
        rintro e w75 ⟨rfl, hb⟩
        refine ⟨_, rfl, ?_⟩
        have n0_ := Aside0.mk (blk_below (g := gb261) (o := .cells #[.int .u64 a0_0, .int .u64 a0_1] 24 (0, 0)) (by (with_reducible repeat (first | refine blk_drewN ?_ _ | refine blk_drew ?_ | refine blk_alloc ?_ _)); exact BK261.out) hb)
        have n1_ := Aside0.mk (blk_below (g := gb262) (o := .cells #[.int .u64 a1_0, .int .u64 a1_1] 24 (0, 0)) (by (with_reducible repeat (first | refine blk_drewN ?_ _ | refine blk_drew ?_ | refine blk_alloc ?_ _)); exact BK262.out) hb)
        have n2_ := Aside0.mk (blk_below (g := gb266) (o := .cells #[.int .u64 t263, .int .u64 t264] 24 (0, 0)) (by (with_reducible repeat (first | refine blk_drewN ?_ _ | refine blk_drew ?_ | refine blk_alloc ?_ _)); exact BK266.out) hb)
        have n3_ := Aside0.mk (blk_below (g := gb270) (o := .cells #[.int .u64 t267, .int .u64 t268] 24 (0, 0)) (by (with_reducible repeat (first | refine blk_drewN ?_ _ | refine blk_drew ?_ | refine blk_alloc ?_ _)); exact BK270.out) hb)
        have n4_ := Aside0.mk (below_step (by repeat (first | (with_reducible first | exact HB.out | apply below_alloc | apply pw_below_drewN | apply below_drew1 | refine below_set ?_ GE261.out | refine below_set ?_ GE262.out | refine below_set ?_ GE266.out | refine below_set ?_ GE270.out) | exact HB.out)) hb)
        clear BK261
        clear BK262
        clear BK266
        clear BK270
        clear HB
        have BK261 := n0_
        have BK262 := n1_
        have BK266 := n2_
        have BK270 := n3_
        have HB := n4_
        clear n0_ n1_ n2_ n3_ n4_
        (try clear hb)
        (try clear hb2)
        (try clear hk)
        (try clear hi)
        refine hK.out _ _ ⟨(blk_cell BK261.out 0).trans rfl, (blk_cell BK261.out 1).trans rfl, (blk_cell BK262.out 0).trans rfl, (blk_cell BK262.out 1).trans rfl⟩ (fun hHeld => ?_)
        clear hK K
        refine norm_ (a' := ?_) ?_ ?_
        rotate_left
        ·
         show Act.put _ (some 31) _ = _
         simp only [Act.put, List.setIfInBounds_toArray, List.set_cons_zero, List.set_cons_succ, i64_w, i32_w]
         rfl
        refine pure_ (i := 4) (N := some 10) (v := ?_) (a' := ?_) #[true, true, true, true, true, false] rfl rfl (by kernel_rfl) (fun _ _ _ h => h) (Or.inl ⟨by rfl, ?_⟩) ?_ ?_
        rotate_left
        ·
         intro w'
         go_simp
         with_reducible rfl
        rotate_left
        ·
         simp only [Act.put, List.setIfInBounds_toArray, List.set_cons_zero, List.set_cons_succ, i64_w, i32_w]
         rfl
        refine pure_ (i := 5) (N := some 11) (v := ?_) (a' := ?_) #[true, true, true, true, true, true] rfl rfl (by kernel_rfl) (fun _ _ _ h => h) (Or.inl ⟨by rfl, ?_⟩) ?_ ?_
        rotate_left
        ·
         intro w'
         go_simp
         with_reducible rfl
        rotate_left
        ·
         simp only [Act.put, List.setIfInBounds_toArray, List.set_cons_zero, List.set_cons_succ, i64_w, i32_w]
         rfl
        refine done_ (by kernel_rfl) ?_
        have hcz76_0 : w75.cell? ⟨gb261, 0, none⟩ = some (.int .u64 a0_0) := (blk_cell BK261.out 0).trans rfl
        have hcz76_1 : w75.cell? ⟨gb261, 1, none⟩ = some (.int .u64 a0_1) := (blk_cell BK261.out 1).trans rfl
        have hfz76_0 := blk_frozen BK261.out 0
        have hfz76_1 := blk_frozen BK261.out 1
        have hcz77_0 : w75.cell? ⟨gb262, 0, none⟩ = some (.int .u64 a1_0) := (blk_cell BK262.out 0).trans rfl
        have hcz77_1 : w75.cell? ⟨gb262, 1, none⟩ = some (.int .u64 a1_1) := (blk_cell BK262.out 1).trans rfl
        have hfz77_0 := blk_frozen BK262.out 0
        have hfz77_1 := blk_frozen BK262.out 1
        try go_wp2_with (first | (go_at_call 24; (with_reducible refine (wide_Cmp.calls a1_0 a1_1 a0_0 a0_1 t276 _ A49.out).mono ?_); rintro e w78 ⟨rfl, hb⟩; have n0_ := Aside0.mk (blk_below (g := gb261) (o := .cells #[.int .u64 a0_0, .int .u64 a0_1] 24 (0, 0)) (by (with_reducible repeat (first | refine blk_drewN ?_ _ | refine blk_drew ?_ | refine blk_alloc ?_ _)); exact BK261.out) hb); have n1_ := Aside0.mk (blk_below (g := gb262) (o := .cells #[.int .u64 a1_0, .int .u64 a1_1] 24 (0, 0)) (by (with_reducible repeat (first | refine blk_drewN ?_ _ | refine blk_drew ?_ | refine blk_alloc ?_ _)); exact BK262.out) hb); have n2_ := Aside0.mk (blk_below (g := gb266) (o := .cells #[.int .u64 t263, .int .u64 t264] 24 (0, 0)) (by (with_reducible repeat (first | refine blk_drewN ?_ _ | refine blk_drew ?_ | refine blk_alloc ?_ _)); exact BK266.out) hb); have n3_ := Aside0.mk (blk_below (g := gb270) (o := .cells #[.int .u64 t267, .int .u64 t268] 24 (0, 0)) (by (with_reducible repeat (first | refine blk_drewN ?_ _ | refine blk_drew ?_ | refine blk_alloc ?_ _)); exact BK270.out) hb); have n4_ := Aside0.mk (below_step (by repeat (first | (with_reducible first | exact HB.out | apply below_alloc | apply pw_below_drewN | apply below_drew1 | refine below_set ?_ GE261.out | refine below_set ?_ GE262.out | refine below_set ?_ GE266.out | refine below_set ?_ GE270.out) | exact HB.out)) hb); clear BK261; clear BK262; clear BK266; clear BK270; clear HB; have BK261 := n0_; have BK262 := n1_; have BK266 := n2_; have BK270 := n3_; have HB := n4_; clear n0_ n1_ n2_ n3_ n4_; (try clear hb); (try clear hb2); (try clear hk); (try clear hi)) | (go_at_call 11; (with_reducible refine (samphirelaw01_awake.calls  t277 _ A51.out).mono ?_); rintro e w79 ⟨rfl, hb⟩; have n0_ := Aside0.mk (blk_below (g := gb261) (o := .cells #[.int .u64 a0_0, .int .u64 a0_1] 24 (0, 0)) (by (with_reducible repeat (first | refine blk_drewN ?_ _ | refine blk_drew ?_ | refine blk_alloc ?_ _)); exact BK261.out) hb); have n1_ := Aside0.mk (blk_below (g := gb262) (o := .cells #[.int .u64 a1_0, .int .u64 a1_1] 24 (0, 0)) (by (with_reducible repeat (first | refine blk_drewN ?_ _ | refine blk_drew ?_ | refine blk_alloc ?_ _)); exact BK262.out) hb); have n2_ := Aside0.mk (blk_below (g := gb266) (o := .cells #[.int .u64 t263, .int .u64 t264] 24 (0, 0)) (by (with_reducible repeat (first | refine blk_drewN ?_ _ | refine blk_drew ?_ | refine blk_alloc ?_ _)); exact BK266.out) hb); have n3_ := Aside0.mk (blk_below (g := gb270) (o := .cells #[.int .u64 t267, .int .u64 t268] 24 (0, 0)) (by (with_reducible repeat (first | refine blk_drewN ?_ _ | refine blk_drew ?_ | refine blk_alloc ?_ _)); exact BK270.out) hb); have n4_ := Aside0.mk (below_step (by repeat (first | (with_reducible first | exact HB.out | apply below_alloc | apply pw_below_drewN | apply below_drew1 | refine below_set ?_ GE261.out | refine below_set ?_ GE262.out | refine below_set ?_ GE266.out | refine below_set ?_ GE270.out) | exact HB.out)) hb); clear BK261; clear BK262; clear BK266; clear BK270; clear HB; have BK261 := n0_; have BK262 := n1_; have BK266 := n2_; have BK270 := n3_; have HB := n4_; clear n0_ n1_ n2_ n3_ n4_; (try clear hb); (try clear hb2); (try clear hk); (try clear hi)))
        go_ret
        exact ⟨by first | rfl | (simp [errW_none, errW_some] <;> rfl) | (simp [*, errW_none, errW_some] <;> rfl), by repeat (first | (with_reducible first | exact HB.out | apply below_alloc | apply pw_below_drewN | apply below_drew1 | refine below_set ?_ GE261.out | refine below_set ?_ GE262.out | refine below_set ?_ GE266.out | refine below_set ?_ GE270.out) | exact HB.out)⟩
       ·
        rw [if_neg c50] at H
        exact absurd H (by simp)
      ·
       rw [if_neg c48] at H
       exact absurd H (by simp)
     ·
      rw [if_neg c47] at H
      exact absurd H (by simp)
    ·
     rw [if_neg c46] at H
     exact absurd H (by simp)
   ·
    rw [if_neg c45] at H
    exact absurd H (by simp)
  ·
   rw [if_neg c44] at H
   have c44b0 : ((t272.size : Int) == (t273.size : Int)) = false := beq_eq_false_iff_ne.mpr c44
   have c44b1 : ((t272.size : Int) != (t273.size : Int)) = true := bne_iff_ne.mpr c44
   have c44b2 : (t272.size == t273.size) = false := by first | simpa using c44 | (simp at c44 ⊢; omega)
   by_cases c80 : ((decide (t271 ≥ 0)) == t265) = true
   ·
    rw [if_pos c80] at H
    have c80b0 : ((decide (t271 ≥ 0)) == t265) = true := c80
    (try (have c80b1 : decide ((decide (t271 ≥ 0)) = t265) = true := by simpa using c80))
    (try (have c80b2 : ((decide (t271 ≥ 0)) == t265) = true := by simpa using c80))
    clear c80
    by_cases c81 : ((decide (t271 ≤ 0)) == t269) = true
    ·
     rw [if_pos c81] at H
     have c81b0 : ((decide (t271 ≤ 0)) == t269) = true := c81
     (try (have c81b1 : decide ((decide (t271 ≤ 0)) = t269) = true := by simpa using c81))
     (try (have c81b2 : ((decide (t271 ≤ 0)) == t269) = true := by simpa using c81))
     clear c81
     by_cases c82 : ((t271 == 0) == (a0_0 == a1_0 && (a0_1 == a1_1))) = true
     ·
      rw [if_pos c82] at H
      have c82b0 : ((t271 == 0) == (a0_0 == a1_0 && (a0_1 == a1_1))) = true := c82
      (try (have c82b1 : decide ((t271 == 0) = (a0_0 == a1_0 && (a0_1 == a1_1))) = true := by simpa using c82))
      (try (have c82b2 : ((t271 == 0) == (a0_0 == a1_0 && (a0_1 == a1_1))) = true := by simpa using c82))
      clear c82
      by_cases c83 : ((decide (t271 < 0)) == false) = true
      ·
       rw [if_pos c83] at H
       have c83b0 : ((decide (t271 < 0)) == false) = true := c83
       (try (have c83b1 : decide ((decide (t271 < 0)) = false) = true := by simpa using c83))
       (try (have c83b2 : ((decide (t271 < 0)) == false) = true := by simpa using c83))
       clear c83
       replace H := Option.bind_eq_some_iff.mp H
       obtain ⟨t278, A840, H⟩ := H
       replace H : (if t271 = (wrap64 (-t278)) then ((samphirelaw01_awake.f).bind fun t279 => (some t279)) else (none)) = some r := H
       have A84 := Aside0.mk A840
       clear A840
       by_cases c85 : t271 = (wrap64 (-t278))
       ·
        rw [if_pos c85] at H
        have c85b0 : (t271 == (wrap64 (-t278))) = true := beq_iff_eq.mpr c85
        have c85b1 : (t271 != (wrap64 (-t278))) = false := bne_eq_false_iff_eq.mpr c85
        clear c85
        replace H := Option.bind_eq_some_iff.mp H
        obtain ⟨t279, A860, H⟩ := H
        replace H : (some t279) = some r := H
        have A86 := Aside0.mk A860
        clear A860
        obtain rfl := Option.some.inj H
        go_enter Try.func10, Try.ntmps10
        try go_wp2_with (first | ((with_reducible refine gate_dst (N := 2) rfl ?_); (try (refine gate_guard (by rfl) ?_; dsimp only)); refine box_event ?hg (N := 2) ?hd (cs := #[.int .u64 a0_0, .int .u64 a0_1]) (t := 24) ?hr ?_; (case hd => rfl); (case hg => rfl); (case hr => first | (go_simp; done) | (go_simp; rfl)); intro gb261 hg w87 hbox hb; have n0_ := Aside0.mk (below_step (by repeat (first | (with_reducible first | exact HB.out | apply below_alloc | apply pw_below_drewN | apply below_drew1) | exact HB.out)) hb); have n1_ := Aside0.mk (hbox); have n2_ := Aside0.mk ((by rw [hg]; exact (below_size (by repeat (first | (with_reducible first | exact HB.out | apply below_alloc | apply pw_below_drewN | apply below_drew1) | exact HB.out))) : w.heap.size ≤ gb261)); have n3_ := Aside0.mk ((by rw [hg]; exact (below_size (by repeat (first | (with_reducible first | exact HB.out | apply below_alloc | apply pw_below_drewN | apply below_drew1) | exact HB.out))) : w.heap.size ≤ gb261)); clear HB; have HB := n0_; have BK261 := n1_; have GW261 := n2_; have GE261 := n3_; clear n0_ n1_ n2_ n3_; clear hb hbox hg) | ((with_reducible refine gate_dst (N := 3) rfl ?_); (try (refine gate_guard (by rfl) ?_; dsimp only)); refine box_event ?hg (N := 3) ?hd (cs := #[.int .u64 a1_0, .int .u64 a1_1]) (t := 24) ?hr ?_; (case hd => rfl); (case hg => rfl); (case hr => first | (go_simp; done) | (go_simp; rfl)); intro gb262 hg w88 hbox hb; have n0_ := Aside0.mk (blk_below (g := gb261) (o := .cells #[.int .u64 a0_0, .int .u64 a0_1] 24 (0, 0)) (by (with_reducible repeat (first | refine blk_drewN ?_ _ | refine blk_drew ?_ | refine blk_alloc ?_ _)); exact BK261.out) hb); have n1_ := Aside0.mk (below_step (by repeat (first | (with_reducible first | exact HB.out | apply below_alloc | apply pw_below_drewN | apply below_drew1 | refine below_set ?_ GE261.out) | exact HB.out)) hb); have n2_ := Aside0.mk (hbox); have n3_ := Aside0.mk ((by rw [hg]; exact (below_size (by repeat (first | (with_reducible first | exact HB.out | apply below_alloc | apply pw_below_drewN | apply below_drew1 | refine below_set ?_ GE261.out) | exact HB.out))) : w.heap.size ≤ gb262)); have n4_ := Aside0.mk ((by rw [hg]; exact (below_size (by repeat (first | (with_reducible first | exact HB.out | apply below_alloc | apply pw_below_drewN | apply below_drew1 | refine below_set ?_ GE261.out) | exact HB.out))) : w.heap.size ≤ gb262)); have n5_ := Aside0.mk ((by rw [hg]; exact Nat.ne_of_lt (blk_lt (g := gb261) (o := .cells #[.int .u64 a0_0, .int .u64 a0_1] 24 (0, 0)) (by (with_reducible repeat (first | refine blk_drewN ?_ _ | refine blk_drew ?_ | refine blk_alloc ?_ _)); exact BK261.out)) : gb261 ≠ gb262)); have n6_ := Aside0.mk ((by rw [hg]; exact Nat.ne_of_gt (blk_lt (g := gb261) (o := .cells #[.int .u64 a0_0, .int .u64 a0_1] 24 (0, 0)) (by (with_reducible repeat (first | refine blk_drewN ?_ _ | refine blk_drew ?_ | refine blk_alloc ?_ _)); exact BK261.out)) : gb262 ≠ gb261)); clear BK261; clear HB; have BK261 := n0_; have HB := n1_; have BK262 := n2_; have GW262 := n3_; have GE262 := n4_; have NB261_262 := n5_; have NB262_261 := n6_; clear n0_ n1_ n2_ n3_ n4_ n5_ n6_; clear hb hbox hg; have hnb89 := NB261_262.out; have hnc89 := NB262_261.out; have hcz90_0 : w88.cell? ⟨gb261, 0, none⟩ = some (.int .u64 a0_0) := (blk_cell BK261.out 0).trans rfl; have hcz90_1 : w88.cell? ⟨gb261, 1, none⟩ = some (.int .u64 a0_1) := (blk_cell BK261.out 1).trans rfl; have hfz90_0 := blk_frozen BK261.out 0; have hfz90_1 := blk_frozen BK261.out 1; have hcz91_0 : w88.cell? ⟨gb262, 0, none⟩ = some (.int .u64 a1_0) := (blk_cell BK262.out 0).trans rfl; have hcz91_1 : w88.cell? ⟨gb262, 1, none⟩ = some (.int .u64 a1_1) := (blk_cell BK262.out 1).trans rfl; have hfz91_0 := blk_frozen BK262.out 0; have hfz91_1 := blk_frozen BK262.out 1) | ((with_reducible refine gate_callee (f := 22) rfl ?_); refine goesL_ (some 16) rfl rfl Try.func22 (by kernel_rfl) rfl #[.agg #[.int .u64 a0_0, .int .u64 a0_1], .agg #[.int .u64 a1_0, .int .u64 a1_1]] rfl (by (try simp only [List.map_toArray, List.map_cons, List.map_nil]); first | done | rfl | (simp only [List.length_drop, List.length_take]; rfl)) ?_; (with_reducible refine (wide_Sub.calls a0_0 a0_1 a1_0 a1_1 t263 t264 t265 _ A3.out).mono ?_); rintro e w92 ⟨rfl, hb⟩; refine ⟨_, rfl, ?_⟩; have n0_ := Aside0.mk (blk_below (g := gb261) (o := .cells #[.int .u64 a0_0, .int .u64 a0_1] 24 (0, 0)) (by (with_reducible repeat (first | refine blk_drewN ?_ _ | refine blk_drew ?_ | refine blk_alloc ?_ _)); exact BK261.out) hb); have n1_ := Aside0.mk (blk_below (g := gb262) (o := .cells #[.int .u64 a1_0, .int .u64 a1_1] 24 (0, 0)) (by (with_reducible repeat (first | refine blk_drewN ?_ _ | refine blk_drew ?_ | refine blk_alloc ?_ _)); exact BK262.out) hb); have n2_ := Aside0.mk (below_step (by repeat (first | (with_reducible first | exact HB.out | apply below_alloc | apply pw_below_drewN | apply below_drew1 | refine below_set ?_ GE261.out | refine below_set ?_ GE262.out) | exact HB.out)) hb); clear BK261; clear BK262; clear HB; have BK261 := n0_; have BK262 := n1_; have HB := n2_; clear n0_ n1_ n2_; (try clear hb); (try clear hb2); (try clear hk); (try clear hi)) | ((with_reducible refine gate_dst (N := 5) rfl ?_); (try (refine gate_guard (by rfl) ?_; dsimp only)); refine box_event ?hg (N := 5) ?hd (cs := #[.int .u64 0, .int .u64 0]) (t := 24) ?hr ?_; (case hd => rfl); (case hg => rfl); (case hr => first | (go_simp; done) | (go_simp; rfl)); intro gb266 hg w93 hbox hb; have n0_ := Aside0.mk (blk_below (g := gb261) (o := .cells #[.int .u64 a0_0, .int .u64 a0_1] 24 (0, 0)) (by (with_reducible repeat (first | refine blk_drewN ?_ _ | refine blk_drew ?_ | refine blk_alloc ?_ _)); exact BK261.out) hb); have n1_ := Aside0.mk (blk_below (g := gb262) (o := .cells #[.int .u64 a1_0, .int .u64 a1_1] 24 (0, 0)) (by (with_reducible repeat (first | refine blk_drewN ?_ _ | refine blk_drew ?_ | refine blk_alloc ?_ _)); exact BK262.out) hb); have n2_ := Aside0.mk (below_step (by repeat (first | (with_reducible first | exact HB.out | apply below_alloc | apply pw_below_drewN | apply below_drew1 | refine below_set ?_ GE261.out | refine below_set ?_ GE262.out) | exact HB.out)) hb); have n3_ := Aside0.mk (hbox); have n4_ := Aside0.mk ((by rw [hg]; exact (below_size (by repeat (first | (with_reducible first | exact HB.out | apply below_alloc | apply pw_below_drewN | apply below_drew1 | refine below_set ?_ GE261.out | refine below_set ?_ GE262.out) | exact HB.out))) : w.heap.size ≤ gb266)); have n5_ := Aside0.mk ((by rw [hg]; exact (below_size (by repeat (first | (with_reducible first | exact HB.out | apply below_alloc | apply pw_below_drewN | apply below_drew1 | refine below_set ?_ GE261.out | refine below_set ?_ GE262.out) | exact HB.out))) : w.heap.size ≤ gb266)); have n6_ := Aside0.mk ((by rw [hg]; exact Nat.ne_of_lt (blk_lt (g := gb261) (o := .cells #[.int .u64 a0_0, .int .u64 a0_1] 24 (0, 0)) (by (with_reducible repeat (first | refine blk_drewN ?_ _ | refine blk_drew ?_ | refine blk_alloc ?_ _)); exact BK261.out)) : gb261 ≠ gb266)); have n7_ := Aside0.mk ((by rw [hg]; exact Nat.ne_of_gt (blk_lt (g := gb261) (o := .cells #[.int .u64 a0_0, .int .u64 a0_1] 24 (0, 0)) (by (with_reducible repeat (first | refine blk_drewN ?_ _ | refine blk_drew ?_ | refine blk_alloc ?_ _)); exact BK261.out)) : gb266 ≠ gb261)); have n8_ := Aside0.mk ((by rw [hg]; exact Nat.ne_of_lt (blk_lt (g := gb262) (o := .cells #[.int .u64 a1_0, .int .u64 a1_1] 24 (0, 0)) (by (with_reducible repeat (first | refine blk_drewN ?_ _ | refine blk_drew ?_ | refine blk_alloc ?_ _)); exact BK262.out)) : gb262 ≠ gb266)); have n9_ := Aside0.mk ((by rw [hg]; exact Nat.ne_of_gt (blk_lt (g := gb262) (o := .cells #[.int .u64 a1_0, .int .u64 a1_1] 24 (0, 0)) (by (with_reducible repeat (first | refine blk_drewN ?_ _ | refine blk_drew ?_ | refine blk_alloc ?_ _)); exact BK262.out)) : gb266 ≠ gb262)); clear BK261; clear BK262; clear HB; have BK261 := n0_; have BK262 := n1_; have HB := n2_; have BK266 := n3_; have GW266 := n4_; have GE266 := n5_; have NB261_266 := n6_; have NB266_261 := n7_; have NB262_266 := n8_; have NB266_262 := n9_; clear n0_ n1_ n2_ n3_ n4_ n5_ n6_ n7_ n8_ n9_; clear hb hbox hg; have hnb94 := NB266_261.out; have hnc94 := NB261_266.out; have hnb95 := NB266_262.out; have hnc95 := NB262_266.out; have hcz96_0 : w93.cell? ⟨gb266, 0, none⟩ = some (.int .u64 0) := (blk_cell BK266.out 0).trans rfl; have hcz96_1 : w93.cell? ⟨gb266, 1, none⟩ = some (.int .u64 0) := (blk_cell BK266.out 1).trans rfl; have hfz96_0 := blk_frozen BK266.out 0; have hfz96_1 := blk_frozen BK266.out 1; have hcz97_0 : w93.cell? ⟨gb262, 0, none⟩ = some (.int .u64 a1_0) := (blk_cell BK262.out 0).trans rfl; have hcz97_1 : w93.cell? ⟨gb262, 1, none⟩ = some (.int .u64 a1_1) := (blk_cell BK262.out 1).trans rfl; have hfz97_0 := blk_frozen BK262.out 0; have hfz97_1 := blk_frozen BK262.out 1; have hcz98_0 : w93.cell? ⟨gb261, 0, none⟩ = some (.int .u64 a0_0) := (blk_cell BK261.out 0).trans rfl; have hcz98_1 : w93.cell? ⟨gb261, 1, none⟩ = some (.int .u64 a0_1) := (blk_cell BK261.out 1).trans rfl; have hfz98_0 := blk_frozen BK261.out 0; have hfz98_1 := blk_frozen BK261.out 1) | ((with_reducible refine gate_callee (f := 22) rfl ?_); refine goesL_ (some 22) rfl rfl Try.func22 (by kernel_rfl) rfl #[.agg #[.int .u64 a1_0, .int .u64 a1_1], .agg #[.int .u64 a0_0, .int .u64 a0_1]] rfl (by (try simp only [List.map_toArray, List.map_cons, List.map_nil]); first | done | rfl | (simp only [List.length_drop, List.length_take]; rfl)) ?_; (with_reducible refine (wide_Sub.calls a1_0 a1_1 a0_0 a0_1 t267 t268 t269 _ A4.out).mono ?_); rintro e w99 ⟨rfl, hb⟩; refine ⟨_, rfl, ?_⟩; have n0_ := Aside0.mk (blk_below (g := gb261) (o := .cells #[.int .u64 a0_0, .int .u64 a0_1] 24 (0, 0)) (by (with_reducible repeat (first | refine blk_drewN ?_ _ | refine blk_drew ?_ | refine blk_alloc ?_ _)); refine blk_far ?_ NB261_266.out _; (with_reducible repeat (first | refine blk_drewN ?_ _ | refine blk_drew ?_ | refine blk_alloc ?_ _)); refine blk_far ?_ NB261_266.out _; (with_reducible repeat (first | refine blk_drewN ?_ _ | refine blk_drew ?_ | refine blk_alloc ?_ _)); exact BK261.out) hb); have n1_ := Aside0.mk (blk_below (g := gb262) (o := .cells #[.int .u64 a1_0, .int .u64 a1_1] 24 (0, 0)) (by (with_reducible repeat (first | refine blk_drewN ?_ _ | refine blk_drew ?_ | refine blk_alloc ?_ _)); refine blk_far ?_ NB262_266.out _; (with_reducible repeat (first | refine blk_drewN ?_ _ | refine blk_drew ?_ | refine blk_alloc ?_ _)); refine blk_far ?_ NB262_266.out _; (with_reducible repeat (first | refine blk_drewN ?_ _ | refine blk_drew ?_ | refine blk_alloc ?_ _)); exact BK262.out) hb); have n2_ := Aside0.mk (blk_below (g := gb266) (o := .cells #[.int .u64 t263, .int .u64 t264] 24 (0, 0)) (by (with_reducible repeat (first | refine blk_drewN ?_ _ | refine blk_drew ?_ | refine blk_alloc ?_ _)); refine blk_put (cs := #[.int .u64 t263, .int .u64 0]) ?_ 1 _ rfl; (with_reducible repeat (first | refine blk_drewN ?_ _ | refine blk_drew ?_ | refine blk_alloc ?_ _)); refine blk_put (cs := #[.int .u64 0, .int .u64 0]) ?_ 0 _ rfl; (with_reducible repeat (first | refine blk_drewN ?_ _ | refine blk_drew ?_ | refine blk_alloc ?_ _)); exact BK266.out) hb); have n3_ := Aside0.mk (below_step (by repeat (first | (with_reducible first | exact HB.out | apply below_alloc | apply pw_below_drewN | apply below_drew1 | refine below_set ?_ GE261.out | refine below_set ?_ GE262.out | refine below_set ?_ GE266.out) | exact HB.out)) hb); clear BK261; clear BK262; clear BK266; clear HB; have BK261 := n0_; have BK262 := n1_; have BK266 := n2_; have HB := n3_; clear n0_ n1_ n2_ n3_; (try clear hb); (try clear hb2); (try clear hk); (try clear hi)) | ((with_reducible refine gate_dst (N := 7) rfl ?_); (try (refine gate_guard (by rfl) ?_; dsimp only)); refine box_event ?hg (N := 7) ?hd (cs := #[.int .u64 0, .int .u64 0]) (t := 24) ?hr ?_; (case hd => rfl); (case hg => rfl); (case hr => first | (go_simp; done) | (go_simp; rfl)); intro gb270 hg w100 hbox hb; have n0_ := Aside0.mk (blk_below (g := gb261) (o := .cells #[.int .u64 a0_0, .int .u64 a0_1] 24 (0, 0)) (by (with_reducible repeat (first | refine blk_drewN ?_ _ | refine blk_drew ?_ | refine blk_alloc ?_ _)); exact BK261.out) hb); have n1_ := Aside0.mk (blk_below (g := gb262) (o := .cells #[.int .u64 a1_0, .int .u64 a1_1] 24 (0, 0)) (by (with_reducible repeat (first | refine blk_drewN ?_ _ | refine blk_drew ?_ | refine blk_alloc ?_ _)); exact BK262.out) hb); have n2_ := Aside0.mk (blk_below (g := gb266) (o := .cells #[.int .u64 t263, .int .u64 t264] 24 (0, 0)) (by (with_reducible repeat (first | refine blk_drewN ?_ _ | refine blk_drew ?_ | refine blk_alloc ?_ _)); exact BK266.out) hb); have n3_ := Aside0.mk (below_step (by repeat (first | (with_reducible first | exact HB.out | apply below_alloc | apply pw_below_drewN | apply below_drew1 | refine below_set ?_ GE261.out | refine below_set ?_ GE262.out | refine below_set ?_ GE266.out) | exact HB.out)) hb); have n4_ := Aside0.mk (hbox); have n5_ := Aside0.mk ((by rw [hg]; exact (below_size (by repeat (first | (with_reducible first | exact HB.out | apply below_alloc | apply pw_below_drewN | apply below_drew1 | refine below_set ?_ GE261.out | refine below_set ?_ GE262.out | refine below_set ?_ GE266.out) | exact HB.out))) : w.heap.size ≤ gb270)); have n6_ := Aside0.mk ((by rw [hg]; exact (below_size (by repeat (first | (with_reducible first | exact HB.out | apply below_alloc | apply pw_below_drewN | apply below_drew1 | refine below_set ?_ GE261.out | refine below_set ?_ GE262.out | refine below_set ?_ GE266.out) | exact HB.out))) : w.heap.size ≤ gb270)); have n7_ := Aside0.mk ((by rw [hg]; exact Nat.ne_of_lt (blk_lt (g := gb261) (o := .cells #[.int .u64 a0_0, .int .u64 a0_1] 24 (0, 0)) (by (with_reducible repeat (first | refine blk_drewN ?_ _ | refine blk_drew ?_ | refine blk_alloc ?_ _)); exact BK261.out)) : gb261 ≠ gb270)); have n8_ := Aside0.mk ((by rw [hg]; exact Nat.ne_of_gt (blk_lt (g := gb261) (o := .cells #[.int .u64 a0_0, .int .u64 a0_1] 24 (0, 0)) (by (with_reducible repeat (first | refine blk_drewN ?_ _ | refine blk_drew ?_ | refine blk_alloc ?_ _)); exact BK261.out)) : gb270 ≠ gb261)); have n9_ := Aside0.mk ((by rw [hg]; exact Nat.ne_of_lt (blk_lt (g := gb262) (o := .cells #[.int .u64 a1_0, .int .u64 a1_1] 24 (0, 0)) (by (with_reducible repeat (first | refine blk_drewN ?_ _ | refine blk_drew ?_ | refine blk_alloc ?_ _)); exact BK262.out)) : gb262 ≠ gb270)); have n10_ := Aside0.mk ((by rw [hg]; exact Nat.ne_of_gt (blk_lt (g := gb262) (o := .cells #[.int .u64 a1_0, .int .u64 a1_1] 24 (0, 0)) (by (with_reducible repeat (first | refine blk_drewN ?_ _ | refine blk_drew ?_ | refine blk_alloc ?_ _)); exact BK262.out)) : gb270 ≠ gb262)); have n11_ := Aside0.mk ((by rw [hg]; exact Nat.ne_of_lt (blk_lt (g := gb266) (o := .cells #[.int .u64 t263, .int .u64 t264] 24 (0, 0)) (by (with_reducible repeat (first | refine blk_drewN ?_ _ | refine blk_drew ?_ | refine blk_alloc ?_ _)); exact BK266.out)) : gb266 ≠ gb270)); have n12_ := Aside0.mk ((by rw [hg]; exact Nat.ne_of_gt (blk_lt (g := gb266) (o := .cells #[.int .u64 t263, .int .u64 t264] 24 (0, 0)) (by (with_reducible repeat (first | refine blk_drewN ?_ _ | refine blk_drew ?_ | refine blk_alloc ?_ _)); exact BK266.out)) : gb270 ≠ gb266)); clear BK261; clear BK262; clear BK266; clear HB; have BK261 := n0_; have BK262 := n1_; have BK266 := n2_; have HB := n3_; have BK270 := n4_; have GW270 := n5_; have GE270 := n6_; have NB261_270 := n7_; have NB270_261 := n8_; have NB262_270 := n9_; have NB270_262 := n10_; have NB266_270 := n11_; have NB270_266 := n12_; clear n0_ n1_ n2_ n3_ n4_ n5_ n6_ n7_ n8_ n9_ n10_ n11_ n12_; clear hb hbox hg; have hnb101 := NB270_261.out; have hnc101 := NB261_270.out; have hnb102 := NB270_262.out; have hnc102 := NB262_270.out; have hnb103 := NB270_266.out; have hnc103 := NB266_270.out; have hcz104_0 : w100.cell? ⟨gb270, 0, none⟩ = some (.int .u64 0) := (blk_cell BK270.out 0).trans rfl; have hcz104_1 : w100.cell? ⟨gb270, 1, none⟩ = some (.int .u64 0) := (blk_cell BK270.out 1).trans rfl; have hfz104_0 := blk_frozen BK270.out 0; have hfz104_1 := blk_frozen BK270.out 1; have hcz105_0 : w100.cell? ⟨gb261, 0, none⟩ = some (.int .u64 a0_0) := (blk_cell BK261.out 0).trans rfl; have hcz105_1 : w100.cell? ⟨gb261, 1, none⟩ = some (.int .u64 a0_1) := (blk_cell BK261.out 1).trans rfl; have hfz105_0 := blk_frozen BK261.out 0; have hfz105_1 := blk_frozen BK261.out 1; have hcz106_0 : w100.cell? ⟨gb262, 0, none⟩ = some (.int .u64 a1_0) := (blk_cell BK262.out 0).trans rfl; have hcz106_1 : w100.cell? ⟨gb262, 1, none⟩ = some (.int .u64 a1_1) := (blk_cell BK262.out 1).trans rfl; have hfz106_0 := blk_frozen BK262.out 0; have hfz106_1 := blk_frozen BK262.out 1) | ((with_reducible refine gate_callee (f := 24) rfl ?_); refine goesL_ (some 27) rfl rfl Try.func24 (by kernel_rfl) rfl #[.agg #[.int .u64 a0_0, .int .u64 a0_1], .agg #[.int .u64 a1_0, .int .u64 a1_1]] rfl (by (try simp only [List.map_toArray, List.map_cons, List.map_nil]); first | done | rfl | (simp only [List.length_drop, List.length_take]; rfl)) ?_; (with_reducible refine (wide_Cmp.calls a0_0 a0_1 a1_0 a1_1 t271 _ A5.out).mono ?_); rintro e w107 ⟨rfl, hb⟩; refine ⟨_, rfl, ?_⟩; have n0_ := Aside0.mk (blk_below (g := gb261) (o := .cells #[.int .u64 a0_0, .int .u64 a0_1] 24 (0, 0)) (by (with_reducible repeat (first | refine blk_drewN ?_ _ | refine blk_drew ?_ | refine blk_alloc ?_ _)); refine blk_far ?_ NB261_270.out _; (with_reducible repeat (first | refine blk_drewN ?_ _ | refine blk_drew ?_ | refine blk_alloc ?_ _)); refine blk_far ?_ NB261_270.out _; (with_reducible repeat (first | refine blk_drewN ?_ _ | refine blk_drew ?_ | refine blk_alloc ?_ _)); exact BK261.out) hb); have n1_ := Aside0.mk (blk_below (g := gb262) (o := .cells #[.int .u64 a1_0, .int .u64 a1_1] 24 (0, 0)) (by (with_reducible repeat (first | refine blk_drewN ?_ _ | refine blk_drew ?_ | refine blk_alloc ?_ _)); refine blk_far ?_ NB262_270.out _; (with_reducible repeat (first | refine blk_drewN ?_ _ | refine blk_drew ?_ | refine blk_alloc ?_ _)); refine blk_far ?_ NB262_270.out _; (with_reducible repeat (first | refine blk_drewN ?_ _ | refine blk_drew ?_ | refine blk_alloc ?_ _)); exact BK262.out) hb); have n2_ := Aside0.mk (blk_below (g := gb266) (o := .cells #[.int .u64 t263, .int .u64 t264] 24 (0, 0)) (by (with_reducible repeat (first | refine blk_drewN ?_ _ | refine blk_drew ?_ | refine blk_alloc ?_ _)); refine blk_far ?_ NB266_270.out _; (with_reducible repeat (first | refine blk_drewN ?_ _ | refine blk_drew ?_ | refine blk_alloc ?_ _)); refine blk_far ?_ NB266_270.out _; (with_reducible repeat (first | refine blk_drewN ?_ _ | refine blk_drew ?_ | refine blk_alloc ?_ _)); exact BK266.out) hb); have n3_ := Aside0.mk (blk_below (g := gb270) (o := .cells #[.int .u64 t267, .int .u64 t268] 24 (0, 0)) (by (with_reducible repeat (first | refine blk_drewN ?_ _ | refine blk_drew ?_ | refine blk_alloc ?_ _)); refine blk_put (cs := #[.int .u64 t267, .int .u64 0]) ?_ 1 _ rfl; (with_reducible repeat (first | refine blk_drewN ?_ _ | refine blk_drew ?_ | refine blk_alloc ?_ _)); refine blk_put (cs := #[.int .u64 0, .int .u64 0]) ?_ 0 _ rfl; (with_reducible repeat (first | refine blk_drewN ?_ _ | refine blk_drew ?_ | refine blk_alloc ?_ _)); exact BK270.out) hb); have n4_ := Aside0.mk (below_step (by repeat (first | (with_reducible first | exact HB.out | apply below_alloc | apply pw_below_drewN | apply below_drew1 | refine below_set ?_ GE261.out | refine below_set ?_ GE262.out | refine below_set ?_ GE266.out | refine below_set ?_ GE270.out) | exact HB.out)) hb); clear BK261; clear BK262; clear BK266; clear BK270; clear HB; have BK261 := n0_; have BK262 := n1_; have BK266 := n2_; have BK270 := n3_; have HB := n4_; clear n0_ n1_ n2_ n3_ n4_; (try clear hb); (try clear hb2); (try clear hk); (try clear hi)))
        have n0_ := Aside0.mk (blk_drew BK261.out)
        have n1_ := Aside0.mk (blk_drew BK262.out)
        have n2_ := Aside0.mk (blk_drew BK266.out)
        have n3_ := Aside0.mk (blk_drew BK270.out)
        have n4_ := Aside0.mk (below_drew1 HB.out)
        clear BK261
        clear BK262
        clear BK266
        clear BK270
        clear HB
        have BK261 := n0_
        have BK262 := n1_
        have BK266 := n2_
        have BK270 := n3_
        have HB := n4_
        clear n0_ n1_ n2_ n3_ n4_
        refine start_ (n := 6) (S := fun w' => w'.cell? ⟨gb261, 0, none⟩ = some (.int .u64 a0_0) ∧ w'.cell? ⟨gb261, 1, none⟩ = some (.int .u64 a0_1) ∧ w'.cell? ⟨gb262, 0, none⟩ = some (.int .u64 a1_0) ∧ w'.cell? ⟨gb262, 1, none⟩ = some (.int .u64 a1_1)) (ds := []) #[false, false, false, false, false, false] (by kernel_rfl) rfl rfl ⟨(blk_cell BK261.out 0).trans rfl, (blk_cell BK261.out 1).trans rfl, (blk_cell BK262.out 0).trans rfl, (blk_cell BK262.out 1).trans rfl⟩ (fun hHeld => ?_)
        generalize w107.drew = w108 at BK261 BK262 BK266 BK270 HB hHeld ⊢
        refine take_ (i := 0) (N := some 28) (v := ?_) (a' := ?_) #[true, false, false, false, false, false] rfl rfl (by kernel_rfl) (fun _ _ _ h => h) (Or.inl ⟨by rfl, ?_⟩) hHeld ?_ ?_
        rotate_left
        ·
         rintro w' ⟨s0, s1, s2, s3⟩
         go_simp
         with_reducible rfl
        rotate_left
        ·
         simp only [Act.put, List.setIfInBounds_toArray, List.set_cons_zero, List.set_cons_succ, i64_w, i32_w]
         rfl
        refine take_ (i := 2) (N := some 30) (v := ?_) (a' := ?_) #[true, false, true, false, false, false] rfl rfl (by kernel_rfl) (fun _ _ _ h => h) (Or.inl ⟨by rfl, ?_⟩) hHeld ?_ ?_
        rotate_left
        ·
         rintro w' ⟨s0, s1, s2, s3⟩
         go_simp
         with_reducible rfl
        rotate_left
        ·
         simp only [Act.put, List.setIfInBounds_toArray, List.set_cons_zero, List.set_cons_succ, i64_w, i32_w]
         rfl
        refine one_ (i := 1) (N := some 29) #[true, true, true, false, false, false] rfl rfl (by kernel_rfl) (by decide) (fun K hK => ?_)
        refine goes_ Try.func14 (by kernel_rfl) rfl #[.agg #[.int .u64 a0_0, .int .u64 a0_1]] (by rfl) rfl rfl (by (try simp only [List.map_toArray, List.map_cons, List.map_nil]); first | done | rfl | (simp only [List.length_drop, List.length_take]; rfl)) ?_
        with_reducible refine (wide_Text.calls a0_0 a0_1 t272 _ A6.out).mono ?_
        rintro e w109 ⟨rfl, hb⟩
        refine ⟨_, rfl, ?_⟩
        have n0_ := Aside0.mk (blk_below (g := gb261) (o := .cells #[.int .u64 a0_0, .int .u64 a0_1] 24 (0, 0)) (by (with_reducible repeat (first | refine blk_drewN ?_ _ | refine blk_drew ?_ | refine blk_alloc ?_ _)); exact BK261.out) hb)
        have n1_ := Aside0.mk (blk_below (g := gb262) (o := .cells #[.int .u64 a1_0, .int .u64 a1_1] 24 (0, 0)) (by (with_reducible repeat (first | refine blk_drewN ?_ _ | refine blk_drew ?_ | refine blk_alloc ?_ _)); exact BK262.out) hb)
        have n2_ := Aside0.mk (blk_below (g := gb266) (o := .cells #[.int .u64 t263, .int .u64 t264] 24 (0, 0)) (by (with_reducible repeat (first | refine blk_drewN ?_ _ | refine blk_drew ?_ | refine blk_alloc ?_ _)); exact BK266.out) hb)
        have n3_ := Aside0.mk (blk_below (g := gb270) (o := .cells #[.int .u64 t267, .int .u64 t268] 24 (0, 0)) (by (with_reducible repeat (first | refine blk_drewN ?_ _ | refine blk_drew ?_ | refine blk_alloc ?_ _)); exact BK270.out) hb)
        have n4_ := Aside0.mk (below_step (by repeat (first | (with_reducible first | exact HB.out | apply below_alloc | apply pw_below_drewN | apply below_drew1 | refine below_set ?_ GE261.out | refine below_set ?_ GE262.out | refine below_set ?_ GE266.out | refine below_set ?_ GE270.out) | exact HB.out)) hb)
        clear BK261
        clear BK262
        clear BK266
        clear BK270
        clear HB
        have BK261 := n0_
        have BK262 := n1_
        have BK266 := n2_
        have BK270 := n3_
        have HB := n4_
        clear n0_ n1_ n2_ n3_ n4_
        (try clear hb)
        (try clear hb2)
        (try clear hk)
        (try clear hi)
        refine hK.out _ _ ⟨(blk_cell BK261.out 0).trans rfl, (blk_cell BK261.out 1).trans rfl, (blk_cell BK262.out 0).trans rfl, (blk_cell BK262.out 1).trans rfl⟩ (fun hHeld => ?_)
        clear hK K
        refine norm_ (a' := ?_) ?_ ?_
        rotate_left
        ·
         show Act.put _ (some 29) _ = _
         simp only [Act.put, List.setIfInBounds_toArray, List.set_cons_zero, List.set_cons_succ, i64_w, i32_w]
         rfl
        refine one_ (i := 3) (N := some 31) #[true, true, true, true, false, false] rfl rfl (by kernel_rfl) (by decide) (fun K hK => ?_)
        refine goes_ Try.func14 (by kernel_rfl) rfl #[.agg #[.int .u64 a1_0, .int .u64 a1_1]] (by rfl) rfl rfl (by (try simp only [List.map_toArray, List.map_cons, List.map_nil]); first | done | rfl | (simp only [List.length_drop, List.length_take]; rfl)) ?_
        with_reducible refine (wide_Text.calls a1_0 a1_1 t273 _ A7.out).mono ?_
        rintro e w110 ⟨rfl, hb⟩
        refine ⟨_, rfl, ?_⟩
        have n0_ := Aside0.mk (blk_below (g := gb261) (o := .cells #[.int .u64 a0_0, .int .u64 a0_1] 24 (0, 0)) (by (with_reducible repeat (first | refine blk_drewN ?_ _ | refine blk_drew ?_ | refine blk_alloc ?_ _)); exact BK261.out) hb)
        have n1_ := Aside0.mk (blk_below (g := gb262) (o := .cells #[.int .u64 a1_0, .int .u64 a1_1] 24 (0, 0)) (by (with_reducible repeat (first | refine blk_drewN ?_ _ | refine blk_drew ?_ | refine blk_alloc ?_ _)); exact BK262.out) hb)
        have n2_ := Aside0.mk (blk_below (g := gb266) (o := .cells #[.int .u64 t263, .int .u64 t264] 24 (0, 0)) (by (with_reducible repeat (first | refine blk_drewN ?_ _ | refine blk_drew ?_ | refine blk_alloc ?_ _)); exact BK266.out) hb)
        have n3_ := Aside0.mk (blk_below (g := gb270) (o := .cells #[.int .u64 t267, .int .u64 t268] 24 (0, 0)) (by (with_reducible repeat (first | refine blk_drewN ?_ _ | refine blk_drew ?_ | refine blk_alloc ?_ _)); exact BK270.out) hb)
        have n4_ := Aside0.mk (below_step (by repeat (first | (with_reducible first | exact HB.out | apply below_alloc | apply pw_below_drewN | apply below_drew1 | refine below_set ?_ GE261.out | refine below_set ?_ GE262.out | refine below_set ?_ GE266.out | refine below_set ?_ GE270.out) | exact HB.out)) hb)
        clear BK261
        clear BK262
        clear BK266
        clear BK270
        clear HB
        have BK261 := n0_
        have BK262 := n1_
        have BK266 := n2_
        have BK270 := n3_
        have HB := n4_
        clear n0_ n1_ n2_ n3_ n4_
        (try clear hb)
        (try clear hb2)
        (try clear hk)
        (try clear hi)
        refine hK.out _ _ ⟨(blk_cell BK261.out 0).trans rfl, (blk_cell BK261.out 1).trans rfl, (blk_cell BK262.out 0).trans rfl, (blk_cell BK262.out 1).trans rfl⟩ (fun hHeld => ?_)
        clear hK K
        refine norm_ (a' := ?_) ?_ ?_
        rotate_left
        ·
         show Act.put _ (some 31) _ = _
         simp only [Act.put, List.setIfInBounds_toArray, List.set_cons_zero, List.set_cons_succ, i64_w, i32_w]
         rfl
        refine pure_ (i := 4) (N := some 10) (v := ?_) (a' := ?_) #[true, true, true, true, true, false] rfl rfl (by kernel_rfl) (fun _ _ _ h => h) (Or.inl ⟨by rfl, ?_⟩) ?_ ?_
        rotate_left
        ·
         intro w'
         go_simp
         with_reducible rfl
        rotate_left
        ·
         simp only [Act.put, List.setIfInBounds_toArray, List.set_cons_zero, List.set_cons_succ, i64_w, i32_w]
         rfl
        refine pure_ (i := 5) (N := some 11) (v := ?_) (a' := ?_) #[true, true, true, true, true, true] rfl rfl (by kernel_rfl) (fun _ _ _ h => h) (Or.inl ⟨by rfl, ?_⟩) ?_ ?_
        rotate_left
        ·
         intro w'
         go_simp
         with_reducible rfl
        rotate_left
        ·
         simp only [Act.put, List.setIfInBounds_toArray, List.set_cons_zero, List.set_cons_succ, i64_w, i32_w]
         rfl
        refine done_ (by kernel_rfl) ?_
        have hcz111_0 : w110.cell? ⟨gb261, 0, none⟩ = some (.int .u64 a0_0) := (blk_cell BK261.out 0).trans rfl
        have hcz111_1 : w110.cell? ⟨gb261, 1, none⟩ = some (.int .u64 a0_1) := (blk_cell BK261.out 1).trans rfl
        have hfz111_0 := blk_frozen BK261.out 0
        have hfz111_1 := blk_frozen BK261.out 1
        have hcz112_0 : w110.cell? ⟨gb262, 0, none⟩ = some (.int .u64 a1_0) := (blk_cell BK262.out 0).trans rfl
        have hcz112_1 : w110.cell? ⟨gb262, 1, none⟩ = some (.int .u64 a1_1) := (blk_cell BK262.out 1).trans rfl
        have hfz112_0 := blk_frozen BK262.out 0
        have hfz112_1 := blk_frozen BK262.out 1
        try go_wp2_with (first | (go_at_call 24; (with_reducible refine (wide_Cmp.calls a1_0 a1_1 a0_0 a0_1 t278 _ A84.out).mono ?_); rintro e w113 ⟨rfl, hb⟩; have n0_ := Aside0.mk (blk_below (g := gb261) (o := .cells #[.int .u64 a0_0, .int .u64 a0_1] 24 (0, 0)) (by (with_reducible repeat (first | refine blk_drewN ?_ _ | refine blk_drew ?_ | refine blk_alloc ?_ _)); exact BK261.out) hb); have n1_ := Aside0.mk (blk_below (g := gb262) (o := .cells #[.int .u64 a1_0, .int .u64 a1_1] 24 (0, 0)) (by (with_reducible repeat (first | refine blk_drewN ?_ _ | refine blk_drew ?_ | refine blk_alloc ?_ _)); exact BK262.out) hb); have n2_ := Aside0.mk (blk_below (g := gb266) (o := .cells #[.int .u64 t263, .int .u64 t264] 24 (0, 0)) (by (with_reducible repeat (first | refine blk_drewN ?_ _ | refine blk_drew ?_ | refine blk_alloc ?_ _)); exact BK266.out) hb); have n3_ := Aside0.mk (blk_below (g := gb270) (o := .cells #[.int .u64 t267, .int .u64 t268] 24 (0, 0)) (by (with_reducible repeat (first | refine blk_drewN ?_ _ | refine blk_drew ?_ | refine blk_alloc ?_ _)); exact BK270.out) hb); have n4_ := Aside0.mk (below_step (by repeat (first | (with_reducible first | exact HB.out | apply below_alloc | apply pw_below_drewN | apply below_drew1 | refine below_set ?_ GE261.out | refine below_set ?_ GE262.out | refine below_set ?_ GE266.out | refine below_set ?_ GE270.out) | exact HB.out)) hb); clear BK261; clear BK262; clear BK266; clear BK270; clear HB; have BK261 := n0_; have BK262 := n1_; have BK266 := n2_; have BK270 := n3_; have HB := n4_; clear n0_ n1_ n2_ n3_ n4_; (try clear hb); (try clear hb2); (try clear hk); (try clear hi)) | (go_at_call 11; (with_reducible refine (samphirelaw01_awake.calls  t279 _ A86.out).mono ?_); rintro e w114 ⟨rfl, hb⟩; have n0_ := Aside0.mk (blk_below (g := gb261) (o := .cells #[.int .u64 a0_0, .int .u64 a0_1] 24 (0, 0)) (by (with_reducible repeat (first | refine blk_drewN ?_ _ | refine blk_drew ?_ | refine blk_alloc ?_ _)); exact BK261.out) hb); have n1_ := Aside0.mk (blk_below (g := gb262) (o := .cells #[.int .u64 a1_0, .int .u64 a1_1] 24 (0, 0)) (by (with_reducible repeat (first | refine blk_drewN ?_ _ | refine blk_drew ?_ | refine blk_alloc ?_ _)); exact BK262.out) hb); have n2_ := Aside0.mk (blk_below (g := gb266) (o := .cells #[.int .u64 t263, .int .u64 t264] 24 (0, 0)) (by (with_reducible repeat (first | refine blk_drewN ?_ _ | refine blk_drew ?_ | refine blk_alloc ?_ _)); exact BK266.out) hb); have n3_ := Aside0.mk (blk_below (g := gb270) (o := .cells #[.int .u64 t267, .int .u64 t268] 24 (0, 0)) (by (with_reducible repeat (first | refine blk_drewN ?_ _ | refine blk_drew ?_ | refine blk_alloc ?_ _)); exact BK270.out) hb); have n4_ := Aside0.mk (below_step (by repeat (first | (with_reducible first | exact HB.out | apply below_alloc | apply pw_below_drewN | apply below_drew1 | refine below_set ?_ GE261.out | refine below_set ?_ GE262.out | refine below_set ?_ GE266.out | refine below_set ?_ GE270.out) | exact HB.out)) hb); clear BK261; clear BK262; clear BK266; clear BK270; clear HB; have BK261 := n0_; have BK262 := n1_; have BK266 := n2_; have BK270 := n3_; have HB := n4_; clear n0_ n1_ n2_ n3_ n4_; (try clear hb); (try clear hb2); (try clear hk); (try clear hi)))
        go_ret
        exact ⟨by first | rfl | (simp [errW_none, errW_some] <;> rfl) | (simp [*, errW_none, errW_some] <;> rfl), by repeat (first | (with_reducible first | exact HB.out | apply below_alloc | apply pw_below_drewN | apply below_drew1 | refine below_set ?_ GE261.out | refine below_set ?_ GE262.out | refine below_set ?_ GE266.out | refine below_set ?_ GE270.out) | exact HB.out)⟩
       ·
        rw [if_neg c85] at H
        exact absurd H (by simp)
      ·
       rw [if_neg c83] at H
       exact absurd H (by simp)
     ·
      rw [if_neg c82] at H
      exact absurd H (by simp)
    ·
     rw [if_neg c81] at H
     exact absurd H (by simp)
   ·
    rw [if_neg c80] at H
    exact absurd H (by simp)

end Go.Proofs.Ytbpcehbcbcojiaa.Q
