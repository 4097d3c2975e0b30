/- Walks of Go functions, each against a plain function over numbers and lists; written by this session's program printx.py over the kit's print; no condition but those that each theorem states. -/
import Derived.Test.YtabfaoghacamlaaFx0
import Derived.Test.YtabfaoghacamlaaFx3
import Derived.Test.YtabfaoghacamlaaFx4
import Derived.Test.YtabfaoghacamlaaFx5
namespace Go.Proofs.Ytabfaoghacamlaa.F
open Go.Proofs.Ytabfaoghacamlaa.Q
open Go.RowKit Go.Proofs.YtabfaoghacamlaaW.PrintWords Go.Proofs.YtabfaoghacamlaaW.PrintLast Go.Proofs.YtabfaoghacamlaaW.PrintMore
attribute [local go_sem] max2_int min2_int max_two min_two max_three min_three max_four min_four   -- for this text's walks alone
set_option linter.unusedVariables false
set_option linter.unusedSimpArgs false

/-! ### samphirelaw17_SlotsFirst: function 7 -/
def samphirelaw17_SlotsFirst.j0 : Nat → ByteArray → Int → Bool → Int → Int → List ByteArray → Option (Bool)
 | 0, _, _, _, _, _, _ => none
 | k + 1, x1, x2, x39, x240000, x240001, x240002 => if x39 = true then ((samphirelaw17_awake.f k).bind fun t242 => (some t242)) else ((slots_Add.f k x240000 0 ([] : List ByteArray) x1 x2 ([] : List Int) 0).bind fun bt244 => ((slots_Merge.f k x240000 x240001 x240002 x240000 0 ([] : List ByteArray) ([] : List Int) 0).bind fun bt256 => ((slots_Merge.f k x240000 0 ([] : List ByteArray) x240000 x240001 x240002 ([] : List Int) 0).bind fun bt268 => (if bt244.2.2.2.2.2 = 0 then (if bt244.2.2.2.2.1 = 0 then ((samphireref16_Count.f k bt244.2.2.1 x1).bind fun t280 => (if t280 = x240000 then (if bt244.2.1 = x2 then (if bt256.2.2.2.2.2 = 0 then (if bt268.2.2.2.2.2 = 0 then (if (wrap64 (bt256.2.2.2.2.1 + bt268.2.2.2.2.1)) = 0 then ((samphirelaw17_ref.f bt256.1 bt256.2.1 bt256.2.2.1).bind fun bt281 => ((samphirelaw17_ref.f x240000 x240001 x240002).bind fun bt286 => ((samphireref17_Same.f k bt281.1 bt281.2.1 bt281.2.2 bt286.1 bt286.2.1 bt286.2.2).bind fun t291 => (if t291 = true then ((samphirelaw17_ref.f bt268.1 bt268.2.1 bt268.2.2.1).bind fun bt292 => ((samphirelaw17_ref.f x240000 x240001 x240002).bind fun bt297 => ((samphireref17_Same.f k bt292.1 bt292.2.1 bt292.2.2 bt297.1 bt297.2.1 bt297.2.2).bind fun t302 => (if t302 = true then ((samphirelaw17_awake.f k).bind fun t303 => (some t303)) else (none))))) else (none))))) else (none)) else (none)) else (none)) else (none)) else (none))) else (none)) else (none)))))
def samphirelaw17_SlotsFirst.f (k : Nat) (a0_0 : Int) (a0_1 : Int) (l0_2 : List ByteArray) (a1 : ByteArray) (a2 : Int) : Option (Bool) := (samphireref16_Small.f k l0_2).bind fun t240 => (if t240 = true then ((slots_Right.f a0_0 a0_1 l0_2).bind fun t241 => (if t241 = true then (if a0_0 > 60 then (samphirelaw17_SlotsFirst.j0 k a1 a2 true a0_0 a0_1 l0_2) else (if (a1.size : Int) > 64 then (samphirelaw17_SlotsFirst.j0 k a1 a2 true a0_0 a0_1 l0_2) else (samphirelaw17_SlotsFirst.j0 k a1 a2 (a2 == 0) a0_0 a0_1 l0_2))) else (samphirelaw17_SlotsFirst.j0 k a1 a2 true a0_0 a0_1 l0_2))) else (samphirelaw17_SlotsFirst.j0 k a1 a2 true a0_0 a0_1 l0_2))
theorem samphirelaw17_SlotsFirst.mono_l : ∀ k, (∀ y0 y1 y2 y3 y4 y5, LeO (samphirelaw17_SlotsFirst.j0 k y0 y1 y2 y3 y4 y5) (samphirelaw17_SlotsFirst.j0 (k + 1) y0 y1 y2 y3 y4 y5))
 | 0 => fun _ _ _ _ _ _ r h => by simp [samphirelaw17_SlotsFirst.j0] at h
 | k + 1 => by
  have ih0 := samphirelaw17_SlotsFirst.mono_l k
  ·
   intro y0 y1 y2 y3 y4 y5
   unfold samphirelaw17_SlotsFirst.j0
   repeat' first
   | (with_reducible exact ih0 _ _ _ _ _ _)
   | (with_reducible exact samphirelaw17_awake.mono _)
   | (with_reducible exact samphireref16_Count.mono _ _ _)
   | (with_reducible exact samphireref16_Small.mono _ _)
   | (with_reducible exact samphireref17_Same.mono _ _ _ _ _ _ _)
   | (with_reducible exact slots_Add.mono _ _ _ _ _ _ _ _)
   | (with_reducible exact slots_Merge.mono _ _ _ _ _ _ _ _ _)
   | (with_reducible exact LeO.refl _)
   | (with_reducible exact LeO.none _)
   | (with_reducible refine LeO.ite ?_ ?_)
   | (with_reducible refine LeO.bind ?_ (fun _ => ?_))
   | exact ih0 _ _ _ _ _ _
   | exact samphirelaw17_awake.mono _
   | exact samphireref16_Count.mono _ _ _
   | exact samphireref16_Small.mono _ _
   | exact samphireref17_Same.mono _ _ _ _ _ _ _
   | exact slots_Add.mono _ _ _ _ _ _ _ _
   | exact slots_Merge.mono _ _ _ _ _ _ _ _ _
   | exact LeO.none _
   | refine LeO.ite ?_ ?_
   | refine LeO.bind ?_ (fun _ => ?_)
theorem samphirelaw17_SlotsFirst.mono : ∀ a0 a1 a2 a3 a4 k, LeO (samphirelaw17_SlotsFirst.f k a0 a1 a2 a3 a4) (samphirelaw17_SlotsFirst.f (k + 1) a0 a1 a2 a3 a4) := by
 intro a0 a1 a2 a3 a4 k
 have ih0 := samphirelaw17_SlotsFirst.mono_l k
 unfold samphirelaw17_SlotsFirst.f
 repeat' first
   | (with_reducible exact ih0 _ _ _ _ _ _)
   | (with_reducible exact samphirelaw17_awake.mono _)
   | (with_reducible exact samphireref16_Count.mono _ _ _)
   | (with_reducible exact samphireref16_Small.mono _ _)
   | (with_reducible exact samphireref17_Same.mono _ _ _ _ _ _ _)
   | (with_reducible exact slots_Add.mono _ _ _ _ _ _ _ _)
   | (with_reducible exact slots_Merge.mono _ _ _ _ _ _ _ _ _)
   | (with_reducible exact LeO.refl _)
   | (with_reducible exact LeO.none _)
   | (with_reducible refine LeO.ite ?_ ?_)
   | (with_reducible refine LeO.bind ?_ (fun _ => ?_))
   | exact ih0 _ _ _ _ _ _
   | exact samphirelaw17_awake.mono _
   | exact samphireref16_Count.mono _ _ _
   | exact samphireref16_Small.mono _ _
   | exact samphireref17_Same.mono _ _ _ _ _ _ _
   | exact slots_Add.mono _ _ _ _ _ _ _ _
   | exact slots_Merge.mono _ _ _ _ _ _ _ _ _
   | exact LeO.none _
   | refine LeO.ite ?_ ?_
   | refine LeO.bind ?_ (fun _ => ?_)
def samphirelaw17_SlotsFirst.T7 : Bool × List (List Nat × List Nat) := (true, [([], []), ([0], [0]), ([1], [1]), ([2], [2]), ([3, 2], [2, 3]), ([4, 2], [2, 4]), ([2, 5], [2, 5]), ([6, 2], [6]), ([7], [7]), ([8, 7], [7, 8]), ([7], [7]), ([9, 10, 7, 7], [7, 9, 10]), ([7], [7]), ([12, 7], [7, 12]), ([11, 13, 7], [7, 11, 13]), ([7, 14], [7, 14]), ([15, 11], [15]), ([16], [16]), ([17, 16], [16, 17]), ([16], [16]), ([18, 19, 16], [16, 18, 19]), ([16, 20], [16, 20]), ([21, 16], [21]), ([22], [22]), ([23, 22], [22, 23]), ([22, 24], [22, 24]), ([25, 22], [25]), ([26], [26]), ([27, 26], [26, 27]), ([26, 28], [26, 28]), ([29, 26], [29]), ([30], [30]), ([31, 30], [30, 31]), ([30], [30]), ([33, 30], [30, 33]), ([32, 34, 30], [30, 32, 34]), ([35, 30], [30, 35]), ([30, 36], [30, 36]), ([37, 30], [37]), ([38], [38]), ([39, 38, 38], [38, 39]), ([38], [38]), ([41, 40, 38], [38, 41]), ([40, 42, 42, 38], [38, 40, 42]), ([38, 43], [38, 43]), ([44, 43], [44]), ([45], [45]), ([46, 45, 45], [45, 46]), ([45], [45]), ([48, 47, 45], [45, 48]), ([47, 49, 49, 45], [45, 47, 49]), ([45, 50], [45, 50]), ([51, 50], [51]), ([52, 52], [52]), ([52, 53], [52, 53]), ([54, 53, 0, 1, 2, 3, 4, 5, 6, 7, 8, 9, 10, 11, 12, 13, 14, 15, 16, 17, 18, 19, 20, 21, 22, 23, 24, 25, 26, 27, 28, 29, 30, 31, 32, 33, 34, 35, 36, 37, 38, 39, 40, 41, 42, 43, 44, 45, 46, 47, 48, 49, 50, 51, 52, 53, 54], [54])])
def samphirelaw17_SlotsFirst.B7 : List Nat := [0, 1, 3, 7, 15, 31, 63, 127, 255, 511, 255, 2047, 255, 4351, 16383, 32767, 65535, 131071, 262143, 131071, 1048575, 2097151, 4194303, 8388607, 16777215, 33554431, 67108863, 134217727, 268435455, 536870911, 1073741823, 2147483647, 4294967295, 2147483647, 10737418239, 34359738367, 68719476735, 137438953471, 274877906943, 549755813887, 1099511627775, 549755813887, 4398046511103, 8796093022207, 17592186044415, 35184372088831, 70368744177663, 140737488355327, 70368744177663, 562949953421311, 1125899906842623, 2251799813685247, 4503599627370495, 9007199254740991, 18014398509481983, 36028797018963967]
theorem samphirelaw17_SlotsFirst.tab7 : rtab .any (opsOf Try.f7 7) = samphirelaw17_SlotsFirst.T7 := by kernel_rfl
theorem samphirelaw17_SlotsFirst.bits7 : waitsOk samphirelaw17_SlotsFirst.T7.2 samphirelaw17_SlotsFirst.B7 = true := by kernel_rfl
set_option maxHeartbeats 8000000 in
set_option maxRecDepth 100000 in
theorem samphirelaw17_SlotsFirst.calls (k : Nat) (a0_0 : Int) (a0_1 : Int) (A0_2 : Option Addr) (c0_2 : Nat) (l0_2 : List ByteArray) (a1 : ByteArray) (a2 : Int) (r : Bool) (w : World) (hr0_2 : Kd.C Kd.string w A0_2 l0_2.length l0_2) (hc0_2 : l0_2.length ≤ c0_2) (h : samphirelaw17_SlotsFirst.f k a0_0 a0_1 l0_2 a1 a2 = some r) :
  Calls Try.prog 7 #[.agg #[.int .i64 a0_0, .int .u64 a0_1, .slice A0_2 l0_2.length c0_2], .string a1, .int .u64 a2] w fun e w' => e = .returned (.bool r) ∧ Below w.heap.size w w' := by
 have hu27 := Try.underlying27
 have hu33 := Try.underlying33
 have HR0_2 := Aside0.mk hr0_2
 have HC0_2 := Aside0.mk hc0_2
 clear hr0_2 hc0_2
 have HB := Aside0.mk (Below.refl w.heap.size w)
 have H : ((samphireref16_Small.f k l0_2).bind fun t240 => (if t240 = true then ((slots_Right.f a0_0 a0_1 l0_2).bind fun t241 => (if t241 = true then (if a0_0 > 60 then (samphirelaw17_SlotsFirst.j0 k a1 a2 true a0_0 a0_1 l0_2) else (if (a1.size : Int) > 64 then (samphirelaw17_SlotsFirst.j0 k a1 a2 true a0_0 a0_1 l0_2) else (samphirelaw17_SlotsFirst.j0 k a1 a2 (a2 == 0) a0_0 a0_1 l0_2))) else (samphirelaw17_SlotsFirst.j0 k a1 a2 true a0_0 a0_1 l0_2))) else (samphirelaw17_SlotsFirst.j0 k a1 a2 true a0_0 a0_1 l0_2))) = some r := h
 clear h
 have HC4 := Aside0.mk H
 clear H
 go_enter Try.func7, Try.ntmps7
 go_upto_region 1 with (first | ((with_reducible refine gate_dst (N := 3) rfl ?_); (try (refine gate_guard (by rfl) ?_; dsimp only)); refine box_event ?hg (N := 3) ?hd (cs := #[.int .i64 a0_0, .int .u64 a0_1, .slice A0_2 l0_2.length c0_2]) (t := 27) ?hr ?_; (case hd => rfl); (case hg => rfl); (case hr => first | (go_simp; done) | (go_simp; rfl)); intro gb239 hg w5 hbox hb; have n0_ := Aside0.mk (below_step (by repeat (first | (with_reducible first | exact HB.out | apply below_alloc | apply pw_below_drewN | apply below_drew1) | exact HB.out)) hb); have n1_ := Aside0.mk (hbox); have n2_ := Aside0.mk ((by rw [hg]; exact (below_size (by repeat (first | (with_reducible first | exact HB.out | apply below_alloc | apply pw_below_drewN | apply below_drew1) | exact HB.out))) : w.heap.size ≤ gb239)); have n3_ := Aside0.mk ((by rw [hg]; exact (below_size (by repeat (first | (with_reducible first | exact HB.out | apply below_alloc | apply pw_below_drewN | apply below_drew1) | exact HB.out))) : w.heap.size ≤ gb239)); clear HB; have HB := n0_; have BK239 := n1_; have GW239 := n2_; have GE239 := n3_; clear n0_ n1_ n2_ n3_; clear hb hbox hg))
 (try simp only [Act.put, List.setIfInBounds_toArray, List.set_cons_zero, List.set_cons_succ])
 go_cut [39] (fun v39 wc => ∃ (kq : Nat) (x39_3 : Bool), v39 = .bool x39_3 ∧ Aside0 (samphirelaw17_SlotsFirst.j0 kq a1 a2 x39_3 a0_0 a0_1 l0_2 = some r) ∧ Aside0 (kq ≤ k) ∧ Aside0 (wc.heap[gb239]? = some (.cells #[.int .i64 a0_0, .int .u64 a0_1, (.slice A0_2 l0_2.length c0_2)] 27 (0, 0))) ∧ Aside0 (Below w.heap.size w wc))
 case first =>
  have H := HC4.out
  clear HC4
  replace H := Option.bind_eq_some_iff.mp H
  obtain ⟨t240, A60, H⟩ := H
  replace H : (if t240 = true then ((slots_Right.f a0_0 a0_1 l0_2).bind fun t241 => (if t241 = true then (if a0_0 > 60 then (samphirelaw17_SlotsFirst.j0 k a1 a2 true a0_0 a0_1 l0_2) else (if (a1.size : Int) > 64 then (samphirelaw17_SlotsFirst.j0 k a1 a2 true a0_0 a0_1 l0_2) else (samphirelaw17_SlotsFirst.j0 k a1 a2 (a2 == 0) a0_0 a0_1 l0_2))) else (samphirelaw17_SlotsFirst.j0 k a1 a2 true a0_0 a0_1 l0_2))) else (samphirelaw17_SlotsFirst.j0 k a1 a2 true a0_0 a0_1 l0_2)) = some r := H
  have A6 := Aside0.mk A60
  clear A60
  by_cases c7 : t240 = true
  ·
   subst c7
   have H1 : ((slots_Right.f a0_0 a0_1 l0_2).bind fun t241 => (if t241 = true then (if a0_0 > 60 then (samphirelaw17_SlotsFirst.j0 k a1 a2 true a0_0 a0_1 l0_2) else (if (a1.size : Int) > 64 then (samphirelaw17_SlotsFirst.j0 k a1 a2 true a0_0 a0_1 l0_2) else (samphirelaw17_SlotsFirst.j0 k a1 a2 (a2 == 0) a0_0 a0_1 l0_2))) else (samphirelaw17_SlotsFirst.j0 k a1 a2 true a0_0 a0_1 l0_2))) = some r := by rw [if_pos rfl] at H; exact H
   clear H
   have H := H1
   clear H1
   replace H := Option.bind_eq_some_iff.mp H
   obtain ⟨t241, A80, H⟩ := H
   replace H : (if t241 = true then (if a0_0 > 60 then (samphirelaw17_SlotsFirst.j0 k a1 a2 true a0_0 a0_1 l0_2) else (if (a1.size : Int) > 64 then (samphirelaw17_SlotsFirst.j0 k a1 a2 true a0_0 a0_1 l0_2) else (samphirelaw17_SlotsFirst.j0 k a1 a2 (a2 == 0) a0_0 a0_1 l0_2))) else (samphirelaw17_SlotsFirst.j0 k a1 a2 true a0_0 a0_1 l0_2)) = some r := H
   have A8 := Aside0.mk A80
   clear A80
   by_cases c9 : t241 = true
   ·
    subst c9
    have H1 : (if a0_0 > 60 then (samphirelaw17_SlotsFirst.j0 k a1 a2 true a0_0 a0_1 l0_2) else (if (a1.size : Int) > 64 then (samphirelaw17_SlotsFirst.j0 k a1 a2 true a0_0 a0_1 l0_2) else (samphirelaw17_SlotsFirst.j0 k a1 a2 (a2 == 0) a0_0 a0_1 l0_2))) = some r := by rw [if_pos rfl] at H; exact H
    clear H
    have H := H1
    clear H1
    by_cases c10 : a0_0 > 60
    ·
     rw [if_pos c10] at H
     have c10b0 : decide (60 < a0_0) = true := decide_eq_true c10
     clear c10
     (first | rw [c10b0] | (simp only [i64_w, i32_w]; rw [c10b0]) | skip)
     have H' := Aside0.mk H
     clear H
     have hcz11_0 : w5.cell? ⟨gb239, 0, none⟩ = some (.int .i64 a0_0) := (blk_cell BK239.out 0).trans rfl
     have hcz11_1 : w5.cell? ⟨gb239, 1, none⟩ = some (.int .u64 a0_1) := (blk_cell BK239.out 1).trans rfl
     have hcz11_2 : w5.cell? ⟨gb239, 2, none⟩ = some (.slice A0_2 l0_2.length c0_2) := (blk_cell BK239.out 2).trans rfl
     have hfz11_0 := blk_frozen BK239.out 0
     have hfz11_1 := blk_frozen BK239.out 1
     have hfz11_2 := blk_frozen BK239.out 2
     go_wp2_with (first | ((with_reducible refine gate_callee (f := 15) rfl ?_); refine goesL_ (some 19) rfl rfl Try.func15 (by kernel_rfl) rfl #[.slice A0_2 l0_2.length c0_2] rfl (by (try simp only [List.map_toArray, List.map_cons, List.map_nil]); first | done | rfl | (simp only [List.length_drop, List.length_take]; rfl)) ?_; (with_reducible refine (samphireref16_Small.calls k _ _ l0_2 true _ ?side1 ?side2 A6.out).mono ?_); (case side1 => repeat (first | exact (Kd.C_below HR0_2.out HB.out) | (with_reducible refine Kd.C_alloc ?_ _) | (with_reducible refine Kd.C_drewN ?_ _) | (with_reducible refine Kd.C_drew ?_))); (case side2 => exact HC0_2.out); rintro e w' ⟨rfl, ⟨nd, rfl⟩⟩; refine ⟨_, rfl, ?_⟩) | (go_at_call 13; (with_reducible refine (slots_Right.calls a0_0 a0_1 _ _ l0_2 true _ ?side1 ?side2 A8.out).mono ?_); (case side1 => repeat (first | exact (Kd.C_below HR0_2.out (by repeat (first | (with_reducible first | exact HB.out | apply below_alloc | apply pw_below_drewN | apply below_drew1 | refine below_set ?_ GE239.out) | exact HB.out))) | (with_reducible refine Kd.C_alloc ?_ _) | (with_reducible refine Kd.C_drewN ?_ _) | (with_reducible refine Kd.C_drew ?_))); (case side2 => exact HC0_2.out); rintro e w12 ⟨rfl, hb⟩; have n0_ := Aside0.mk (blk_below (g := gb239) (o := .cells #[.int .i64 a0_0, .int .u64 a0_1, .slice A0_2 l0_2.length c0_2] 27 (0, 0)) (by (with_reducible repeat (first | refine blk_drewN ?_ _ | refine blk_drew ?_ | refine blk_alloc ?_ _)); exact BK239.out) hb); have n1_ := Aside0.mk (below_step (by repeat (first | (with_reducible first | exact HB.out | apply below_alloc | apply pw_below_drewN | apply below_drew1 | refine below_set ?_ GE239.out) | exact HB.out)) hb); clear BK239; clear HB; have BK239 := n0_; have HB := n1_; clear n0_ n1_; (try clear hb); (try clear hb2); (try clear hk); (try clear hi); have hcz13_0 : w12.cell? ⟨gb239, 0, none⟩ = some (.int .i64 a0_0) := (blk_cell BK239.out 0).trans rfl; have hcz13_1 : w12.cell? ⟨gb239, 1, none⟩ = some (.int .u64 a0_1) := (blk_cell BK239.out 1).trans rfl; have hcz13_2 : w12.cell? ⟨gb239, 2, none⟩ = some (.slice A0_2 l0_2.length c0_2) := (blk_cell BK239.out 2).trans rfl; have hfz13_0 := blk_frozen BK239.out 0; have hfz13_1 := blk_frozen BK239.out 1; have hfz13_2 := blk_frozen BK239.out 2))
     go_meet
     case rel => exact ⟨_, (true), (by first | rfl | (simp; done) | (simp [*]; done)), H', ⟨by first | omega | exact Nat.le_refl _⟩, ⟨by (with_reducible repeat (first | refine blk_drewN ?_ _ | refine blk_drew ?_ | refine blk_alloc ?_ _)); exact BK239.out⟩, ⟨by repeat (first | (with_reducible first | exact HB.out | apply below_alloc | apply pw_below_drewN | apply below_drew1 | refine below_set ?_ GE239.out) | exact HB.out)⟩⟩
    ·
     rw [if_neg c10] at H
     have c10b0 : decide (60 < a0_0) = false := decide_eq_false c10
     clear c10
     (first | rw [c10b0] | (simp only [i64_w, i32_w]; rw [c10b0]) | skip)
     by_cases c14 : (a1.size : Int) > 64
     ·
      rw [if_pos c14] at H
      have c14b0 : decide (64 < (a1.size : Int)) = true := decide_eq_true c14
      have c14b1 : decide (64 < a1.size) = true := decide_eq_true (by omega)
      clear c14
      have H' := Aside0.mk H
      clear H
      have hcz15_0 : w5.cell? ⟨gb239, 0, none⟩ = some (.int .i64 a0_0) := (blk_cell BK239.out 0).trans rfl
      have hcz15_1 : w5.cell? ⟨gb239, 1, none⟩ = some (.int .u64 a0_1) := (blk_cell BK239.out 1).trans rfl
      have hcz15_2 : w5.cell? ⟨gb239, 2, none⟩ = some (.slice A0_2 l0_2.length c0_2) := (blk_cell BK239.out 2).trans rfl
      have hfz15_0 := blk_frozen BK239.out 0
      have hfz15_1 := blk_frozen BK239.out 1
      have hfz15_2 := blk_frozen BK239.out 2
      go_wp2_with (first | ((with_reducible refine gate_callee (f := 15) rfl ?_); refine goesL_ (some 19) rfl rfl Try.func15 (by kernel_rfl) rfl #[.slice A0_2 l0_2.length c0_2] rfl (by (try simp only [List.map_toArray, List.map_cons, List.map_nil]); first | done | rfl | (simp only [List.length_drop, List.length_take]; rfl)) ?_; (with_reducible refine (samphireref16_Small.calls k _ _ l0_2 true _ ?side1 ?side2 A6.out).mono ?_); (case side1 => repeat (first | exact (Kd.C_below HR0_2.out HB.out) | (with_reducible refine Kd.C_alloc ?_ _) | (with_reducible refine Kd.C_drewN ?_ _) | (with_reducible refine Kd.C_drew ?_))); (case side2 => exact HC0_2.out); rintro e w' ⟨rfl, ⟨nd, rfl⟩⟩; refine ⟨_, rfl, ?_⟩) | (go_at_call 13; (with_reducible refine (slots_Right.calls a0_0 a0_1 _ _ l0_2 true _ ?side1 ?side2 A8.out).mono ?_); (case side1 => repeat (first | exact (Kd.C_below HR0_2.out (by repeat (first | (with_reducible first | exact HB.out | apply below_alloc | apply pw_below_drewN | apply below_drew1 | refine below_set ?_ GE239.out) | exact HB.out))) | (with_reducible refine Kd.C_alloc ?_ _) | (with_reducible refine Kd.C_drewN ?_ _) | (with_reducible refine Kd.C_drew ?_))); (case side2 => exact HC0_2.out); rintro e w16 ⟨rfl, hb⟩; have n0_ := Aside0.mk (blk_below (g := gb239) (o := .cells #[.int .i64 a0_0, .int .u64 a0_1, .slice A0_2 l0_2.length c0_2] 27 (0, 0)) (by (with_reducible repeat (first | refine blk_drewN ?_ _ | refine blk_drew ?_ | refine blk_alloc ?_ _)); exact BK239.out) hb); have n1_ := Aside0.mk (below_step (by repeat (first | (with_reducible first | exact HB.out | apply below_alloc | apply pw_below_drewN | apply below_drew1 | refine below_set ?_ GE239.out) | exact HB.out)) hb); clear BK239; clear HB; have BK239 := n0_; have HB := n1_; clear n0_ n1_; (try clear hb); (try clear hb2); (try clear hk); (try clear hi); have hcz17_0 : w16.cell? ⟨gb239, 0, none⟩ = some (.int .i64 a0_0) := (blk_cell BK239.out 0).trans rfl; have hcz17_1 : w16.cell? ⟨gb239, 1, none⟩ = some (.int .u64 a0_1) := (blk_cell BK239.out 1).trans rfl; have hcz17_2 : w16.cell? ⟨gb239, 2, none⟩ = some (.slice A0_2 l0_2.length c0_2) := (blk_cell BK239.out 2).trans rfl; have hfz17_0 := blk_frozen BK239.out 0; have hfz17_1 := blk_frozen BK239.out 1; have hfz17_2 := blk_frozen BK239.out 2))
      go_meet
      case rel => exact ⟨_, (true), (by first | rfl | (simp; done) | (simp [*]; done)), H', ⟨by first | omega | exact Nat.le_refl _⟩, ⟨by (with_reducible repeat (first | refine blk_drewN ?_ _ | refine blk_drew ?_ | refine blk_alloc ?_ _)); exact BK239.out⟩, ⟨by repeat (first | (with_reducible first | exact HB.out | apply below_alloc | apply pw_below_drewN | apply below_drew1 | refine below_set ?_ GE239.out) | exact HB.out)⟩⟩
     ·
      rw [if_neg c14] at H
      have c14b0 : decide (64 < (a1.size : Int)) = false := decide_eq_false c14
      have c14b1 : decide (64 < a1.size) = false := decide_eq_false (by omega)
      clear c14
      have H' := Aside0.mk H
      clear H
      have hcz18_0 : w5.cell? ⟨gb239, 0, none⟩ = some (.int .i64 a0_0) := (blk_cell BK239.out 0).trans rfl
      have hcz18_1 : w5.cell? ⟨gb239, 1, none⟩ = some (.int .u64 a0_1) := (blk_cell BK239.out 1).trans rfl
      have hcz18_2 : w5.cell? ⟨gb239, 2, none⟩ = some (.slice A0_2 l0_2.length c0_2) := (blk_cell BK239.out 2).trans rfl
      have hfz18_0 := blk_frozen BK239.out 0
      have hfz18_1 := blk_frozen BK239.out 1
      have hfz18_2 := blk_frozen BK239.out 2
      go_wp2_with (first | ((with_reducible refine gate_callee (f := 15) rfl ?_); refine goesL_ (some 19) rfl rfl Try.func15 (by kernel_rfl) rfl #[.slice A0_2 l0_2.length c0_2] rfl (by (try simp only [List.map_toArray, List.map_cons, List.map_nil]); first | done | rfl | (simp only [List.length_drop, List.length_take]; rfl)) ?_; (with_reducible refine (samphireref16_Small.calls k _ _ l0_2 true _ ?side1 ?side2 A6.out).mono ?_); (case side1 => repeat (first | exact (Kd.C_below HR0_2.out HB.out) | (with_reducible refine Kd.C_alloc ?_ _) | (with_reducible refine Kd.C_drewN ?_ _) | (with_reducible refine Kd.C_drew ?_))); (case side2 => exact HC0_2.out); rintro e w' ⟨rfl, ⟨nd, rfl⟩⟩; refine ⟨_, rfl, ?_⟩) | (go_at_call 13; (with_reducible refine (slots_Right.calls a0_0 a0_1 _ _ l0_2 true _ ?side1 ?side2 A8.out).mono ?_); (case side1 => repeat (first | exact (Kd.C_below HR0_2.out (by repeat (first | (with_reducible first | exact HB.out | apply below_alloc | apply pw_below_drewN | apply below_drew1 | refine below_set ?_ GE239.out) | exact HB.out))) | (with_reducible refine Kd.C_alloc ?_ _) | (with_reducible refine Kd.C_drewN ?_ _) | (with_reducible refine Kd.C_drew ?_))); (case side2 => exact HC0_2.out); rintro e w19 ⟨rfl, hb⟩; have n0_ := Aside0.mk (blk_below (g := gb239) (o := .cells #[.int .i64 a0_0, .int .u64 a0_1, .slice A0_2 l0_2.length c0_2] 27 (0, 0)) (by (with_reducible repeat (first | refine blk_drewN ?_ _ | refine blk_drew ?_ | refine blk_alloc ?_ _)); exact BK239.out) hb); have n1_ := Aside0.mk (below_step (by repeat (first | (with_reducible first | exact HB.out | apply below_alloc | apply pw_below_drewN | apply below_drew1 | refine below_set ?_ GE239.out) | exact HB.out)) hb); clear BK239; clear HB; have BK239 := n0_; have HB := n1_; clear n0_ n1_; (try clear hb); (try clear hb2); (try clear hk); (try clear hi); have hcz20_0 : w19.cell? ⟨gb239, 0, none⟩ = some (.int .i64 a0_0) := (blk_cell BK239.out 0).trans rfl; have hcz20_1 : w19.cell? ⟨gb239, 1, none⟩ = some (.int .u64 a0_1) := (blk_cell BK239.out 1).trans rfl; have hcz20_2 : w19.cell? ⟨gb239, 2, none⟩ = some (.slice A0_2 l0_2.length c0_2) := (blk_cell BK239.out 2).trans rfl; have hfz20_0 := blk_frozen BK239.out 0; have hfz20_1 := blk_frozen BK239.out 1; have hfz20_2 := blk_frozen BK239.out 2))
      go_meet
      case rel => exact ⟨_, ((a2 == 0)), (by first | rfl | (simp; done) | (simp [*]; done)), H', ⟨by first | omega | exact Nat.le_refl _⟩, ⟨by (with_reducible repeat (first | refine blk_drewN ?_ _ | refine blk_drew ?_ | refine blk_alloc ?_ _)); exact BK239.out⟩, ⟨by repeat (first | (with_reducible first | exact HB.out | apply below_alloc | apply pw_below_drewN | apply below_drew1 | refine below_set ?_ GE239.out) | exact HB.out)⟩⟩
   ·
    replace c9 := Bool.eq_false_iff.mpr c9
    subst c9
    have H1 : (samphirelaw17_SlotsFirst.j0 k a1 a2 true a0_0 a0_1 l0_2) = some r := by rw [if_neg (show ¬ (false = true) by decide)] at H; exact H
    clear H
    have H := H1
    clear H1
    have H' := Aside0.mk H
    clear H
    have hcz21_0 : w5.cell? ⟨gb239, 0, none⟩ = some (.int .i64 a0_0) := (blk_cell BK239.out 0).trans rfl
    have hcz21_1 : w5.cell? ⟨gb239, 1, none⟩ = some (.int .u64 a0_1) := (blk_cell BK239.out 1).trans rfl
    have hcz21_2 : w5.cell? ⟨gb239, 2, none⟩ = some (.slice A0_2 l0_2.length c0_2) := (blk_cell BK239.out 2).trans rfl
    have hfz21_0 := blk_frozen BK239.out 0
    have hfz21_1 := blk_frozen BK239.out 1
    have hfz21_2 := blk_frozen BK239.out 2
    go_wp2_with (first | ((with_reducible refine gate_callee (f := 15) rfl ?_); refine goesL_ (some 19) rfl rfl Try.func15 (by kernel_rfl) rfl #[.slice A0_2 l0_2.length c0_2] rfl (by (try simp only [List.map_toArray, List.map_cons, List.map_nil]); first | done | rfl | (simp only [List.length_drop, List.length_take]; rfl)) ?_; (with_reducible refine (samphireref16_Small.calls k _ _ l0_2 true _ ?side1 ?side2 A6.out).mono ?_); (case side1 => repeat (first | exact (Kd.C_below HR0_2.out HB.out) | (with_reducible refine Kd.C_alloc ?_ _) | (with_reducible refine Kd.C_drewN ?_ _) | (with_reducible refine Kd.C_drew ?_))); (case side2 => exact HC0_2.out); rintro e w' ⟨rfl, ⟨nd, rfl⟩⟩; refine ⟨_, rfl, ?_⟩) | (go_at_call 13; (with_reducible refine (slots_Right.calls a0_0 a0_1 _ _ l0_2 false _ ?side1 ?side2 A8.out).mono ?_); (case side1 => repeat (first | exact (Kd.C_below HR0_2.out (by repeat (first | (with_reducible first | exact HB.out | apply below_alloc | apply pw_below_drewN | apply below_drew1 | refine below_set ?_ GE239.out) | exact HB.out))) | (with_reducible refine Kd.C_alloc ?_ _) | (with_reducible refine Kd.C_drewN ?_ _) | (with_reducible refine Kd.C_drew ?_))); (case side2 => exact HC0_2.out); rintro e w22 ⟨rfl, hb⟩; have n0_ := Aside0.mk (blk_below (g := gb239) (o := .cells #[.int .i64 a0_0, .int .u64 a0_1, .slice A0_2 l0_2.length c0_2] 27 (0, 0)) (by (with_reducible repeat (first | refine blk_drewN ?_ _ | refine blk_drew ?_ | refine blk_alloc ?_ _)); exact BK239.out) hb); have n1_ := Aside0.mk (below_step (by repeat (first | (with_reducible first | exact HB.out | apply below_alloc | apply pw_below_drewN | apply below_drew1 | refine below_set ?_ GE239.out) | exact HB.out)) hb); clear BK239; clear HB; have BK239 := n0_; have HB := n1_; clear n0_ n1_; (try clear hb); (try clear hb2); (try clear hk); (try clear hi)))
    go_meet
    case rel => exact ⟨_, (true), (by first | rfl | (simp; done) | (simp [*]; done)), H', ⟨by first | omega | exact Nat.le_refl _⟩, ⟨by (with_reducible repeat (first | refine blk_drewN ?_ _ | refine blk_drew ?_ | refine blk_alloc ?_ _)); exact BK239.out⟩, ⟨by repeat (first | (with_reducible first | exact HB.out | apply below_alloc | apply pw_below_drewN | apply below_drew1 | refine below_set ?_ GE239.out) | exact HB.out)⟩⟩
  ·
   replace c7 := Bool.eq_false_iff.mpr c7
   subst c7
   have H1 : (samphirelaw17_SlotsFirst.j0 k a1 a2 true a0_0 a0_1 l0_2) = some r := by rw [if_neg (show ¬ (false = true) by decide)] at H; exact H
   clear H
   have H := H1
   clear H1
   have H' := Aside0.mk H
   clear H
   have hcz23_0 : w5.cell? ⟨gb239, 0, none⟩ = some (.int .i64 a0_0) := (blk_cell BK239.out 0).trans rfl
   have hcz23_1 : w5.cell? ⟨gb239, 1, none⟩ = some (.int .u64 a0_1) := (blk_cell BK239.out 1).trans rfl
   have hcz23_2 : w5.cell? ⟨gb239, 2, none⟩ = some (.slice A0_2 l0_2.length c0_2) := (blk_cell BK239.out 2).trans rfl
   have hfz23_0 := blk_frozen BK239.out 0
   have hfz23_1 := blk_frozen BK239.out 1
   have hfz23_2 := blk_frozen BK239.out 2
   go_wp2_with (first | ((with_reducible refine gate_callee (f := 15) rfl ?_); refine goesL_ (some 19) rfl rfl Try.func15 (by kernel_rfl) rfl #[.slice A0_2 l0_2.length c0_2] rfl (by (try simp only [List.map_toArray, List.map_cons, List.map_nil]); first | done | rfl | (simp only [List.length_drop, List.length_take]; rfl)) ?_; (with_reducible refine (samphireref16_Small.calls k _ _ l0_2 false _ ?side1 ?side2 A6.out).mono ?_); (case side1 => repeat (first | exact (Kd.C_below HR0_2.out HB.out) | (with_reducible refine Kd.C_alloc ?_ _) | (with_reducible refine Kd.C_drewN ?_ _) | (with_reducible refine Kd.C_drew ?_))); (case side2 => exact HC0_2.out); rintro e w' ⟨rfl, ⟨nd, rfl⟩⟩; refine ⟨_, rfl, ?_⟩))
   go_meet
   case rel => exact ⟨_, (true), (by first | rfl | (simp; done) | (simp [*]; done)), H', ⟨by first | omega | exact Nat.le_refl _⟩, ⟨by (with_reducible repeat (first | refine blk_drewN ?_ _ | refine blk_drew ?_ | refine blk_alloc ?_ _)); exact BK239.out⟩, ⟨by repeat (first | (with_reducible first | exact HB.out | apply below_alloc | apply pw_below_drewN | apply below_drew1 | refine below_set ?_ GE239.out) | exact HB.out)⟩⟩
 case rest =>
  clear HC4
  try clear c1
  try clear p2
  try clear c7
  try clear c9
  try clear c10
  try clear c10b0
  try clear c14
  try clear c14b0
  try clear c14b1
  try clear c15
  try clear hcz11_0
  try clear hcz11_1
  try clear hcz11_2
  try clear hcz13_0
  try clear hcz13_1
  try clear hcz13_2
  try clear hcz15_0
  try clear hcz15_1
  try clear hcz15_2
  try clear hcz17_0
  try clear hcz17_1
  try clear hcz17_2
  try clear hcz18_0
  try clear hcz18_1
  try clear hcz18_2
  try clear hcz20_0
  try clear hcz20_1
  try clear hcz20_2
  try clear hcz21_0
  try clear hcz21_1
  try clear hcz21_2
  try clear hcz23_0
  try clear hcz23_1
  try clear hcz23_2
  try clear hfz11_0
  try clear hfz11_1
  try clear hfz11_2
  try clear hfz13_0
  try clear hfz13_1
  try clear hfz13_2
  try clear hfz15_0
  try clear hfz15_1
  try clear hfz15_2
  try clear hfz17_0
  try clear hfz17_1
  try clear hfz17_2
  try clear hfz18_0
  try clear hfz18_1
  try clear hfz18_2
  try clear hfz20_0
  try clear hfz20_1
  try clear hfz20_2
  try clear hfz21_0
  try clear hfz21_1
  try clear hfz21_2
  try clear hfz23_0
  try clear hfz23_1
  try clear hfz23_2
  obtain ⟨kq, x39_3, rfl, HA, HJ3, BK239, HB⟩ := hcut
  cases kq with
  | zero => exact absurd HA.out (by simp [samphirelaw17_SlotsFirst.j0])
  | succ kj3 =>
   have H := HA.out
   clear HA
   simp only [samphirelaw17_SlotsFirst.j0] at H
   by_cases c24 : x39_3 = true
   ·
    subst c24
    have H1 : ((samphirelaw17_awake.f kj3).bind fun t242 => (some t242)) = some r := by rw [if_pos rfl] at H; exact H
    clear H
    have H := H1
    clear H1
    replace H := Option.bind_eq_some_iff.mp H
    obtain ⟨t242, A250, H⟩ := H
    replace H : (some t242) = some r := H
    have A25 := Aside0.mk A250
    clear A250
    obtain rfl := Option.some.inj H
    go_wp2_with (first | ((with_reducible refine gate_callee (f := 9) rfl ?_); refine goesL_ (some 40) rfl rfl Try.func9 (by kernel_rfl) rfl #[] rfl (by (try simp only [List.map_toArray, List.map_cons, List.map_nil]); first | done | rfl | (simp only [List.length_drop, List.length_take]; rfl)) ?_; (with_reducible refine (samphirelaw17_awake.calls kj3  t242 _ A25.out).mono ?_); rintro e w26 ⟨rfl, hb⟩; refine ⟨_, rfl, ?_⟩; have n0_ := Aside0.mk (blk_below (g := gb239) (o := .cells #[.int .i64 a0_0, .int .u64 a0_1, .slice A0_2 l0_2.length c0_2] 27 (0, 0)) (by (with_reducible repeat (first | refine blk_drewN ?_ _ | refine blk_drew ?_ | refine blk_alloc ?_ _)); exact BK239.out) hb); have n1_ := Aside0.mk (below_step (by repeat (first | (with_reducible first | exact HB.out | apply below_alloc | apply pw_below_drewN | apply below_drew1 | refine below_set ?_ GE239.out) | exact HB.out)) hb); clear BK239; clear HB; have BK239 := n0_; have HB := n1_; clear n0_ n1_; (try clear hb); (try clear hb2); (try clear hk); (try clear hi)))
    go_ret
    exact ⟨by first | rfl | (simp [errW_none, errW_some] <;> rfl) | (simp [*, errW_none, errW_some] <;> rfl), by repeat (first | (with_reducible first | exact HB.out | apply below_alloc | apply pw_below_drewN | apply below_drew1 | refine below_set ?_ GE239.out) | exact HB.out)⟩
   ·
    replace c24 := Bool.eq_false_iff.mpr c24
    subst c24
    have H1 : ((slots_Add.f kj3 a0_0 0 ([] : List ByteArray) a1 a2 ([] : List Int) 0).bind fun bt244 => ((slots_Merge.f kj3 a0_0 a0_1 l0_2 a0_0 0 ([] : List ByteArray) ([] : List Int) 0).bind fun bt256 => ((slots_Merge.f kj3 a0_0 0 ([] : List ByteArray) a0_0 a0_1 l0_2 ([] : List Int) 0).bind fun bt268 => (if bt244.2.2.2.2.2 = 0 then (if bt244.2.2.2.2.1 = 0 then ((samphireref16_Count.f kj3 bt244.2.2.1 a1).bind fun t280 => (if t280 = a0_0 then (if bt244.2.1 = a2 then (if bt256.2.2.2.2.2 = 0 then (if bt268.2.2.2.2.2 = 0 then (if (wrap64 (bt256.2.2.2.2.1 + bt268.2.2.2.2.1)) = 0 then ((samphirelaw17_ref.f bt256.1 bt256.2.1 bt256.2.2.1).bind fun bt281 => ((samphirelaw17_ref.f a0_0 a0_1 l0_2).bind fun bt286 => ((samphireref17_Same.f kj3 bt281.1 bt281.2.1 bt281.2.2 bt286.1 bt286.2.1 bt286.2.2).bind fun t291 => (if t291 = true then ((samphirelaw17_ref.f bt268.1 bt268.2.1 bt268.2.2.1).bind fun bt292 => ((samphirelaw17_ref.f a0_0 a0_1 l0_2).bind fun bt297 => ((samphireref17_Same.f kj3 bt292.1 bt292.2.1 bt292.2.2 bt297.1 bt297.2.1 bt297.2.2).bind fun t302 => (if t302 = true then ((samphirelaw17_awake.f kj3).bind fun t303 => (some t303)) else (none))))) else (none))))) else (none)) else (none)) else (none)) else (none)) else (none))) else (none)) else (none))))) = some r := by rw [if_neg (show ¬ (false = true) by decide)] at H; exact H
    clear H
    have H := H1
    clear H1
    replace H := Option.bind_eq_some_iff.mp H
    obtain ⟨⟨t244, t245, t246, t249, t252, t253⟩, A270, H⟩ := H
    replace H : ((slots_Merge.f kj3 a0_0 a0_1 l0_2 a0_0 0 ([] : List ByteArray) ([] : List Int) 0).bind fun bt256 => ((slots_Merge.f kj3 a0_0 0 ([] : List ByteArray) a0_0 a0_1 l0_2 ([] : List Int) 0).bind fun bt268 => (if t253 = 0 then (if t252 = 0 then ((samphireref16_Count.f kj3 t246 a1).bind fun t280 => (if t280 = a0_0 then (if t245 = a2 then (if bt256.2.2.2.2.2 = 0 then (if bt268.2.2.2.2.2 = 0 then (if (wrap64 (bt256.2.2.2.2.1 + bt268.2.2.2.2.1)) = 0 then ((samphirelaw17_ref.f bt256.1 bt256.2.1 bt256.2.2.1).bind fun bt281 => ((samphirelaw17_ref.f a0_0 a0_1 l0_2).bind fun bt286 => ((samphireref17_Same.f kj3 bt281.1 bt281.2.1 bt281.2.2 bt286.1 bt286.2.1 bt286.2.2).bind fun t291 => (if t291 = true then ((samphirelaw17_ref.f bt268.1 bt268.2.1 bt268.2.2.1).bind fun bt292 => ((samphirelaw17_ref.f a0_0 a0_1 l0_2).bind fun bt297 => ((samphireref17_Same.f kj3 bt292.1 bt292.2.1 bt292.2.2 bt297.1 bt297.2.1 bt297.2.2).bind fun t302 => (if t302 = true then ((samphirelaw17_awake.f kj3).bind fun t303 => (some t303)) else (none))))) else (none))))) else (none)) else (none)) else (none)) else (none)) else (none))) else (none)) else (none)))) = some r := H
    have A27 := Aside0.mk A270
    clear A270
    replace H := Option.bind_eq_some_iff.mp H
    obtain ⟨⟨t256, t257, t258, t261, t264, t265⟩, A280, H⟩ := H
    replace H : ((slots_Merge.f kj3 a0_0 0 ([] : List ByteArray) a0_0 a0_1 l0_2 ([] : List Int) 0).bind fun bt268 => (if t253 = 0 then (if t252 = 0 then ((samphireref16_Count.f kj3 t246 a1).bind fun t280 => (if t280 = a0_0 then (if t245 = a2 then (if t265 = 0 then (if bt268.2.2.2.2.2 = 0 then (if (wrap64 (t264 + bt268.2.2.2.2.1)) = 0 then ((samphirelaw17_ref.f t256 t257 t258).bind fun bt281 => ((samphirelaw17_ref.f a0_0 a0_1 l0_2).bind fun bt286 => ((samphireref17_Same.f kj3 bt281.1 bt281.2.1 bt281.2.2 bt286.1 bt286.2.1 bt286.2.2).bind fun t291 => (if t291 = true then ((samphirelaw17_ref.f bt268.1 bt268.2.1 bt268.2.2.1).bind fun bt292 => ((samphirelaw17_ref.f a0_0 a0_1 l0_2).bind fun bt297 => ((samphireref17_Same.f kj3 bt292.1 bt292.2.1 bt292.2.2 bt297.1 bt297.2.1 bt297.2.2).bind fun t302 => (if t302 = true then ((samphirelaw17_awake.f kj3).bind fun t303 => (some t303)) else (none))))) else (none))))) else (none)) else (none)) else (none)) else (none)) else (none))) else (none)) else (none))) = some r := H
    have A28 := Aside0.mk A280
    clear A280
    replace H := Option.bind_eq_some_iff.mp H
    obtain ⟨⟨t268, t269, t270, t273, t276, t277⟩, A290, H⟩ := H
    replace H : (if t253 = 0 then (if t252 = 0 then ((samphireref16_Count.f kj3 t246 a1).bind fun t280 => (if t280 = a0_0 then (if t245 = a2 then (if t265 = 0 then (if t277 = 0 then (if (wrap64 (t264 + t276)) = 0 then ((samphirelaw17_ref.f t256 t257 t258).bind fun bt281 => ((samphirelaw17_ref.f a0_0 a0_1 l0_2).bind fun bt286 => ((samphireref17_Same.f kj3 bt281.1 bt281.2.1 bt281.2.2 bt286.1 bt286.2.1 bt286.2.2).bind fun t291 => (if t291 = true then ((samphirelaw17_ref.f t268 t269 t270).bind fun bt292 => ((samphirelaw17_ref.f a0_0 a0_1 l0_2).bind fun bt297 => ((samphireref17_Same.f kj3 bt292.1 bt292.2.1 bt292.2.2 bt297.1 bt297.2.1 bt297.2.2).bind fun t302 => (if t302 = true then ((samphirelaw17_awake.f kj3).bind fun t303 => (some t303)) else (none))))) else (none))))) else (none)) else (none)) else (none)) else (none)) else (none))) else (none)) else (none)) = some r := H
    have A29 := Aside0.mk A290
    clear A290
    by_cases c30 : t253 = 0
    ·
     rw [if_pos c30] at H
     have c30b0 : (t253 == 0) = true := beq_iff_eq.mpr c30
     have c30b1 : (t253 != 0) = false := bne_eq_false_iff_eq.mpr c30
     clear c30
     by_cases c31 : t252 = 0
     ·
      rw [if_pos c31] at H
      have c31b0 : (t252 == 0) = true := beq_iff_eq.mpr c31
      have c31b1 : (t252 != 0) = false := bne_eq_false_iff_eq.mpr c31
      clear c31
      replace H := Option.bind_eq_some_iff.mp H
      obtain ⟨t280, A320, H⟩ := H
      replace H : (if t280 = a0_0 then (if t245 = a2 then (if t265 = 0 then (if t277 = 0 then (if (wrap64 (t264 + t276)) = 0 then ((samphirelaw17_ref.f t256 t257 t258).bind fun bt281 => ((samphirelaw17_ref.f a0_0 a0_1 l0_2).bind fun bt286 => ((samphireref17_Same.f kj3 bt281.1 bt281.2.1 bt281.2.2 bt286.1 bt286.2.1 bt286.2.2).bind fun t291 => (if t291 = true then ((samphirelaw17_ref.f t268 t269 t270).bind fun bt292 => ((samphirelaw17_ref.f a0_0 a0_1 l0_2).bind fun bt297 => ((samphireref17_Same.f kj3 bt292.1 bt292.2.1 bt292.2.2 bt297.1 bt297.2.1 bt297.2.2).bind fun t302 => (if t302 = true then ((samphirelaw17_awake.f kj3).bind fun t303 => (some t303)) else (none))))) else (none))))) else (none)) else (none)) else (none)) else (none)) else (none)) = some r := H
      have A32 := Aside0.mk A320
      clear A320
      by_cases c33 : t280 = a0_0
      ·
       rw [if_pos c33] at H
       have c33b0 : (t280 == a0_0) = true := beq_iff_eq.mpr c33
       have c33b1 : (t280 != a0_0) = false := bne_eq_false_iff_eq.mpr c33
       clear c33
       by_cases c34 : t245 = a2
       ·
        rw [if_pos c34] at H
        have c34b0 : (t245 == a2) = true := beq_iff_eq.mpr c34
        have c34b1 : (t245 != a2) = false := bne_eq_false_iff_eq.mpr c34
        clear c34
        by_cases c35 : t265 = 0
        ·
         rw [if_pos c35] at H
         have c35b0 : (t265 == 0) = true := beq_iff_eq.mpr c35
         have c35b1 : (t265 != 0) = false := bne_eq_false_iff_eq.mpr c35
         clear c35
         by_cases c36 : t277 = 0
         ·
          rw [if_pos c36] at H
          have c36b0 : (t277 == 0) = true := beq_iff_eq.mpr c36
          have c36b1 : (t277 != 0) = false := bne_eq_false_iff_eq.mpr c36
          clear c36
          by_cases c37 : (wrap64 (t264 + t276)) = 0
          ·
           rw [if_pos c37] at H
           have c37b0 : ((wrap64 (t264 + t276)) == 0) = true := beq_iff_eq.mpr c37
           have c37b1 : ((wrap64 (t264 + t276)) != 0) = false := bne_eq_false_iff_eq.mpr c37
           clear c37
           replace H := Option.bind_eq_some_iff.mp H
           obtain ⟨⟨t281, t282, t283⟩, A380, H⟩ := H
           replace H : ((samphirelaw17_ref.f a0_0 a0_1 l0_2).bind fun bt286 => ((samphireref17_Same.f kj3 t281 t282 t283 bt286.1 bt286.2.1 bt286.2.2).bind fun t291 => (if t291 = true then ((samphirelaw17_ref.f t268 t269 t270).bind fun bt292 => ((samphirelaw17_ref.f a0_0 a0_1 l0_2).bind fun bt297 => ((samphireref17_Same.f kj3 bt292.1 bt292.2.1 bt292.2.2 bt297.1 bt297.2.1 bt297.2.2).bind fun t302 => (if t302 = true then ((samphirelaw17_awake.f kj3).bind fun t303 => (some t303)) else (none))))) else (none)))) = some r := H
           have A38 := Aside0.mk A380
           clear A380
           replace H := Option.bind_eq_some_iff.mp H
           obtain ⟨⟨t286, t287, t288⟩, A390, H⟩ := H
           replace H : ((samphireref17_Same.f kj3 t281 t282 t283 t286 t287 t288).bind fun t291 => (if t291 = true then ((samphirelaw17_ref.f t268 t269 t270).bind fun bt292 => ((samphirelaw17_ref.f a0_0 a0_1 l0_2).bind fun bt297 => ((samphireref17_Same.f kj3 bt292.1 bt292.2.1 bt292.2.2 bt297.1 bt297.2.1 bt297.2.2).bind fun t302 => (if t302 = true then ((samphirelaw17_awake.f kj3).bind fun t303 => (some t303)) else (none))))) else (none))) = some r := H
           have A39 := Aside0.mk A390
           clear A390
           replace H := Option.bind_eq_some_iff.mp H
           obtain ⟨t291, A400, H⟩ := H
           replace H : (if t291 = true then ((samphirelaw17_ref.f t268 t269 t270).bind fun bt292 => ((samphirelaw17_ref.f a0_0 a0_1 l0_2).bind fun bt297 => ((samphireref17_Same.f kj3 bt292.1 bt292.2.1 bt292.2.2 bt297.1 bt297.2.1 bt297.2.2).bind fun t302 => (if t302 = true then ((samphirelaw17_awake.f kj3).bind fun t303 => (some t303)) else (none))))) else (none)) = some r := H
           have A40 := Aside0.mk A400
           clear A400
           by_cases c41 : t291 = true
           ·
            subst c41
            have H1 : ((samphirelaw17_ref.f t268 t269 t270).bind fun bt292 => ((samphirelaw17_ref.f a0_0 a0_1 l0_2).bind fun bt297 => ((samphireref17_Same.f kj3 bt292.1 bt292.2.1 bt292.2.2 bt297.1 bt297.2.1 bt297.2.2).bind fun t302 => (if t302 = true then ((samphirelaw17_awake.f kj3).bind fun t303 => (some t303)) else (none))))) = some r := by rw [if_pos rfl] at H; exact H
            clear H
            have H := H1
            clear H1
            replace H := Option.bind_eq_some_iff.mp H
            obtain ⟨⟨t292, t293, t294⟩, A420, H⟩ := H
            replace H : ((samphirelaw17_ref.f a0_0 a0_1 l0_2).bind fun bt297 => ((samphireref17_Same.f kj3 t292 t293 t294 bt297.1 bt297.2.1 bt297.2.2).bind fun t302 => (if t302 = true then ((samphirelaw17_awake.f kj3).bind fun t303 => (some t303)) else (none)))) = some r := H
            have A42 := Aside0.mk A420
            clear A420
            replace H := Option.bind_eq_some_iff.mp H
            obtain ⟨⟨t297, t298, t299⟩, A430, H⟩ := H
            replace H : ((samphireref17_Same.f kj3 t292 t293 t294 t297 t298 t299).bind fun t302 => (if t302 = true then ((samphirelaw17_awake.f kj3).bind fun t303 => (some t303)) else (none))) = some r := H
            have A43 := Aside0.mk A430
            clear A430
            replace H := Option.bind_eq_some_iff.mp H
            obtain ⟨t302, A440, H⟩ := H
            replace H : (if t302 = true then ((samphirelaw17_awake.f kj3).bind fun t303 => (some t303)) else (none)) = some r := H
            have A44 := Aside0.mk A440
            clear A440
            by_cases c45 : t302 = true
            ·
             subst c45
             have H1 : ((samphirelaw17_awake.f kj3).bind fun t303 => (some t303)) = some r := by rw [if_pos rfl] at H; exact H
             clear H
             have H := H1
             clear H1
             replace H := Option.bind_eq_some_iff.mp H
             obtain ⟨t303, A460, H⟩ := H
             replace H : (some t303) = some r := H
             have A46 := Aside0.mk A460
             clear A460
             obtain rfl := Option.some.inj H
             have hcz47_0 : wc.cell? ⟨gb239, 0, none⟩ = some (.int .i64 a0_0) := (blk_cell BK239.out 0).trans rfl
             have hcz47_1 : wc.cell? ⟨gb239, 1, none⟩ = some (.int .u64 a0_1) := (blk_cell BK239.out 1).trans rfl
             have hcz47_2 : wc.cell? ⟨gb239, 2, none⟩ = some (.slice A0_2 l0_2.length c0_2) := (blk_cell BK239.out 2).trans rfl
             have hfz47_0 := blk_frozen BK239.out 0
             have hfz47_1 := blk_frozen BK239.out 1
             have hfz47_2 := blk_frozen BK239.out 2
             try go_wp2_with (first | ((with_reducible refine gate_dst (N := 7) rfl ?_); (try (refine gate_guard (by rfl) ?_; dsimp only)); refine box_event ?hg (N := 7) ?hd (cs := #[.int .i64 0, .int .u64 0, .slice none 0 0]) (t := 27) ?hr ?_; (case hd => rfl); (case hg => rfl); (case hr => first | (go_simp; done) | (go_simp; rfl)); intro gb243 hg w48 hbox hb; have n0_ := Aside0.mk (blk_below (g := gb239) (o := .cells #[.int .i64 a0_0, .int .u64 a0_1, .slice A0_2 l0_2.length c0_2] 27 (0, 0)) (by (with_reducible repeat (first | refine blk_drewN ?_ _ | refine blk_drew ?_ | refine blk_alloc ?_ _)); exact BK239.out) hb); have n1_ := Aside0.mk (below_step (by repeat (first | (with_reducible first | exact HB.out | apply below_alloc | apply pw_below_drewN | apply below_drew1 | refine below_set ?_ GE239.out) | exact HB.out)) hb); have n2_ := Aside0.mk (hbox); have n3_ := Aside0.mk ((by rw [hg]; exact (below_size (by repeat (first | (with_reducible first | exact HB.out | apply below_alloc | apply pw_below_drewN | apply below_drew1 | refine below_set ?_ GE239.out) | exact HB.out))) : w.heap.size ≤ gb243)); have n4_ := Aside0.mk ((by rw [hg]; exact (below_size (by repeat (first | (with_reducible first | exact HB.out | apply below_alloc | apply pw_below_drewN | apply below_drew1 | refine below_set ?_ GE239.out) | exact HB.out))) : w.heap.size ≤ gb243)); have n5_ := Aside0.mk ((by rw [hg]; exact Nat.ne_of_lt (blk_lt (g := gb239) (o := .cells #[.int .i64 a0_0, .int .u64 a0_1, .slice A0_2 l0_2.length c0_2] 27 (0, 0)) (by (with_reducible repeat (first | refine blk_drewN ?_ _ | refine blk_drew ?_ | refine blk_alloc ?_ _)); exact BK239.out)) : gb239 ≠ gb243)); have n6_ := Aside0.mk ((by rw [hg]; exact Nat.ne_of_gt (blk_lt (g := gb239) (o := .cells #[.int .i64 a0_0, .int .u64 a0_1, .slice A0_2 l0_2.length c0_2] 27 (0, 0)) (by (with_reducible repeat (first | refine blk_drewN ?_ _ | refine blk_drew ?_ | refine blk_alloc ?_ _)); exact BK239.out)) : gb243 ≠ gb239)); clear BK239; clear HB; have BK239 := n0_; have HB := n1_; have BK243 := n2_; have GW243 := n3_; have GE243 := n4_; have NB239_243 := n5_; have NB243_239 := n6_; clear n0_ n1_ n2_ n3_ n4_ n5_ n6_; clear hb hbox hg; have hnb49 := NB243_239.out; have hnc49 := NB239_243.out; have hcz50_0 : w48.cell? ⟨gb243, 0, none⟩ = some (.int .i64 0) := (blk_cell BK243.out 0).trans rfl; have hcz50_1 : w48.cell? ⟨gb243, 1, none⟩ = some (.int .u64 0) := (blk_cell BK243.out 1).trans rfl; have hcz50_2 : w48.cell? ⟨gb243, 2, none⟩ = some (.slice none 0 0) := (blk_cell BK243.out 2).trans rfl; have hfz50_0 := blk_frozen BK243.out 0; have hfz50_1 := blk_frozen BK243.out 1; have hfz50_2 := blk_frozen BK243.out 2) | ((with_reducible refine gate_store (t := 27) (p := 7) rfl ?_); refine store_event (t := 27) (p := 7) (v := ?vo_w51) (w1 := (((w48.setCell ⟨gb243, 0, none⟩ (.int .i64 a0_0)).setCell ⟨gb243, 1, none⟩ (.int .u64 0)).setCell ⟨gb243, 2, none⟩ (.slice none 0 0))) ?hg ?ho ?hn ?hr ?_; (case ho => rfl); (case hg => rfl); (case hn => rfl); (case hr => first | (go_simp; done) | (go_simp; rfl)); intro w51 hw; have n0_ : Aside0 (w51.heap[gb239]? = some (.cells #[.int .i64 a0_0, .int .u64 a0_1, .slice A0_2 l0_2.length c0_2] 27 (0, 0))) := ⟨(by rw [hw]; exact (by (with_reducible repeat (first | refine blk_drewN ?_ _ | refine blk_drew ?_ | refine blk_alloc ?_ _)); refine blk_far ?_ NB239_243.out _; (with_reducible repeat (first | refine blk_drewN ?_ _ | refine blk_drew ?_ | refine blk_alloc ?_ _)); refine blk_far ?_ NB239_243.out _; (with_reducible repeat (first | refine blk_drewN ?_ _ | refine blk_drew ?_ | refine blk_alloc ?_ _)); refine blk_far ?_ NB239_243.out _; (with_reducible repeat (first | refine blk_drewN ?_ _ | refine blk_drew ?_ | refine blk_alloc ?_ _)); exact BK239.out))⟩; have n1_ : Aside0 (w51.heap[gb243]? = some (.cells #[.int .i64 a0_0, .int .u64 0, .slice none 0 0] 27 (0, 0))) := ⟨(by rw [hw]; exact (by (with_reducible repeat (first | refine blk_drewN ?_ _ | refine blk_drew ?_ | refine blk_alloc ?_ _)); refine blk_put (cs := #[.int .i64 a0_0, .int .u64 0, .slice none 0 0]) ?_ 2 _ rfl; (with_reducible repeat (first | refine blk_drewN ?_ _ | refine blk_drew ?_ | refine blk_alloc ?_ _)); refine blk_put (cs := #[.int .i64 a0_0, .int .u64 0, .slice none 0 0]) ?_ 1 _ rfl; (with_reducible repeat (first | refine blk_drewN ?_ _ | refine blk_drew ?_ | refine blk_alloc ?_ _)); refine blk_put (cs := #[.int .i64 0, .int .u64 0, .slice none 0 0]) ?_ 0 _ rfl; (with_reducible repeat (first | refine blk_drewN ?_ _ | refine blk_drew ?_ | refine blk_alloc ?_ _)); exact BK243.out))⟩; have n2_ : Aside0 (Below w.heap.size w w51) := ⟨(by rw [hw]; exact (by repeat (first | (with_reducible first | exact HB.out | apply below_alloc | apply pw_below_drewN | apply below_drew1 | refine below_set ?_ GE239.out | refine below_set ?_ GE243.out) | exact HB.out)))⟩; clear hw; clear BK239; clear BK243; clear HB; have BK239 := n0_; have BK243 := n1_; have HB := n2_; clear n0_ n1_ n2_; have hcz52_0 : w51.cell? ⟨gb243, 0, none⟩ = some (.int .i64 a0_0) := (blk_cell BK243.out 0).trans rfl; have hcz52_1 : w51.cell? ⟨gb243, 1, none⟩ = some (.int .u64 0) := (blk_cell BK243.out 1).trans rfl; have hcz52_2 : w51.cell? ⟨gb243, 2, none⟩ = some (.slice none 0 0) := (blk_cell BK243.out 2).trans rfl; have hfz52_0 := blk_frozen BK243.out 0; have hfz52_1 := blk_frozen BK243.out 1; have hfz52_2 := blk_frozen BK243.out 2) | ((with_reducible refine gate_callee (f := 10) rfl ?_); refine goesL_ (some 49) rfl rfl Try.func10 (by kernel_rfl) rfl #[.agg #[.int .i64 a0_0, .int .u64 0, .slice none 0 0], .string a1, .int .u64 a2, .agg #[.slice none 0 0, .int .i64 0]] rfl (by (try simp only [List.map_toArray, List.map_cons, List.map_nil]); first | done | rfl | (simp only [List.length_drop, List.length_take]; rfl)) ?_; (refine (slots_Add.calls kj3 a0_0 0 (fun k_ => False) _ _ ([] : List ByteArray) a1 a2 (fun k_ => False) _ _ ([] : List Int) 0 t244 t245 t246 t249 t252 t253 _ ?side1 ?side2 A27.out).mono ?_); (case side1 => exact Kd.V_nil _ _ _ _ _); (case side2 => exact Kd.V_nil _ _ _ _ _); rintro e w53 ⟨v247, v250, rfl, ho0, ho1, hb⟩; refine ⟨_, rfl, ?_⟩; have n0_ := Aside0.mk (Kd.V_lower (Kd.V_mono (ok' := fun k_ => k_ ≠ gb239 ∧ k_ ≠ gb243) ho0 (fun k_ hk_ => ⟨Or.elim hk_ (fun hs_ => Or.elim hs_ (fun hs_ => (hs_).elim) (fun hs_ => (hs_).elim)) (fun hn_ => (Kd.freshB (g := gb239) (o := .cells #[.int .i64 a0_0, .int .u64 a0_1, .slice A0_2 l0_2.length c0_2] 27 (0, 0)) (by (with_reducible repeat (first | refine blk_drewN ?_ _ | refine blk_drew ?_ | refine blk_alloc ?_ _)); exact BK239.out) k_ hn_)), Or.elim hk_ (fun hs_ => Or.elim hs_ (fun hs_ => (hs_).elim) (fun hs_ => (hs_).elim)) (fun hn_ => (Kd.freshB (g := gb243) (o := .cells #[.int .i64 a0_0, .int .u64 0, .slice none 0 0] 27 (0, 0)) (by (with_reducible repeat (first | refine blk_drewN ?_ _ | refine blk_drew ?_ | refine blk_alloc ?_ _)); exact BK243.out) k_ hn_))⟩)) (below_size (by repeat (first | (with_reducible first | exact HB.out | apply below_alloc | apply pw_below_drewN | apply below_drew1 | refine below_set ?_ GE239.out | refine below_set ?_ GE243.out) | exact HB.out)))); have n1_ := Aside0.mk (Kd.V_lower (Kd.V_mono (ok' := fun k_ => k_ ≠ gb239 ∧ k_ ≠ gb243) ho1 (fun k_ hk_ => ⟨Or.elim hk_ (fun hs_ => Or.elim hs_ (fun hs_ => (hs_).elim) (fun hs_ => (hs_).elim)) (fun hn_ => (Kd.freshB (g := gb239) (o := .cells #[.int .i64 a0_0, .int .u64 a0_1, .slice A0_2 l0_2.length c0_2] 27 (0, 0)) (by (with_reducible repeat (first | refine blk_drewN ?_ _ | refine blk_drew ?_ | refine blk_alloc ?_ _)); exact BK239.out) k_ hn_)), Or.elim hk_ (fun hs_ => Or.elim hs_ (fun hs_ => (hs_).elim) (fun hs_ => (hs_).elim)) (fun hn_ => (Kd.freshB (g := gb243) (o := .cells #[.int .i64 a0_0, .int .u64 0, .slice none 0 0] 27 (0, 0)) (by (with_reducible repeat (first | refine blk_drewN ?_ _ | refine blk_drew ?_ | refine blk_alloc ?_ _)); exact BK243.out) k_ hn_))⟩)) (below_size (by repeat (first | (with_reducible first | exact HB.out | apply below_alloc | apply pw_below_drewN | apply below_drew1 | refine below_set ?_ GE239.out | refine below_set ?_ GE243.out) | exact HB.out)))); have n2_ := Aside0.mk (blk_below (g := gb239) (o := .cells #[.int .i64 a0_0, .int .u64 a0_1, .slice A0_2 l0_2.length c0_2] 27 (0, 0)) (by (with_reducible repeat (first | refine blk_drewN ?_ _ | refine blk_drew ?_ | refine blk_alloc ?_ _)); exact BK239.out) hb); have n3_ := Aside0.mk (blk_below (g := gb243) (o := .cells #[.int .i64 a0_0, .int .u64 0, .slice none 0 0] 27 (0, 0)) (by (with_reducible repeat (first | refine blk_drewN ?_ _ | refine blk_drew ?_ | refine blk_alloc ?_ _)); exact BK243.out) hb); have n4_ := Aside0.mk (below_step (by repeat (first | (with_reducible first | exact HB.out | apply below_alloc | apply pw_below_drewN | apply below_drew1 | refine below_set ?_ GE239.out | refine below_set ?_ GE243.out) | exact HB.out)) hb); clear BK239; clear BK243; clear HB; have HO248 := n0_; have HO251 := n1_; have BK239 := n2_; have BK243 := n3_; have HB := n4_; clear n0_ n1_ n2_ n3_ n4_; (try clear hb); (try clear hb2); (try clear hk); (try clear hi); (try clear ho0); (try clear ho1)) | ((with_reducible refine gate_dst (N := 8) rfl ?_); (try (refine gate_guard (by rfl) ?_; dsimp only)); refine box_event ?hg (N := 8) ?hd (cs := #[.int .i64 0, .int .u64 0, .slice none 0 0]) (t := 27) ?hr ?_; (case hd => rfl); (case hg => rfl); (case hr => first | (go_simp; done) | (go_simp; rfl)); intro gb254 hg w54 hbox hb; have n0_ := Aside0.mk (Kd.V_below (Kd.V_elderB (by (with_reducible repeat (first | apply Kd.V_alloc | apply Kd.V_drewN | apply Kd.V_drew)); exact HO248.out) gb254 (Nat.le_of_eq hg.symm)) hb); have n1_ := Aside0.mk (Kd.V_below (Kd.V_elderB (by (with_reducible repeat (first | apply Kd.V_alloc | apply Kd.V_drewN | apply Kd.V_drew)); exact HO251.out) gb254 (Nat.le_of_eq hg.symm)) hb); have n2_ := Aside0.mk (blk_below (g := gb239) (o := .cells #[.int .i64 a0_0, .int .u64 a0_1, .slice A0_2 l0_2.length c0_2] 27 (0, 0)) (by (with_reducible repeat (first | refine blk_drewN ?_ _ | refine blk_drew ?_ | refine blk_alloc ?_ _)); exact BK239.out) hb); have n3_ := Aside0.mk (blk_below (g := gb243) (o := .cells #[.int .i64 a0_0, .int .u64 0, .slice none 0 0] 27 (0, 0)) (by (with_reducible repeat (first | refine blk_drewN ?_ _ | refine blk_drew ?_ | refine blk_alloc ?_ _)); exact BK243.out) hb); have n4_ := Aside0.mk (below_step (by repeat (first | (with_reducible first | exact HB.out | apply below_alloc | apply pw_below_drewN | apply below_drew1 | refine below_set ?_ GE239.out | refine below_set ?_ GE243.out) | exact HB.out)) hb); have n5_ := Aside0.mk (hbox); have n6_ := Aside0.mk ((by rw [hg]; exact (below_size (by repeat (first | (with_reducible first | exact HB.out | apply below_alloc | apply pw_below_drewN | apply below_drew1 | refine below_set ?_ GE239.out | refine below_set ?_ GE243.out) | exact HB.out))) : w.heap.size ≤ gb254)); have n7_ := Aside0.mk ((by rw [hg]; exact (below_size (by repeat (first | (with_reducible first | exact HB.out | apply below_alloc | apply pw_below_drewN | apply below_drew1 | refine below_set ?_ GE239.out | refine below_set ?_ GE243.out) | exact HB.out))) : w.heap.size ≤ gb254)); have n8_ := Aside0.mk ((by rw [hg]; exact Nat.ne_of_lt (blk_lt (g := gb239) (o := .cells #[.int .i64 a0_0, .int .u64 a0_1, .slice A0_2 l0_2.length c0_2] 27 (0, 0)) (by (with_reducible repeat (first | refine blk_drewN ?_ _ | refine blk_drew ?_ | refine blk_alloc ?_ _)); exact BK239.out)) : gb239 ≠ gb254)); have n9_ := Aside0.mk ((by rw [hg]; exact Nat.ne_of_gt (blk_lt (g := gb239) (o := .cells #[.int .i64 a0_0, .int .u64 a0_1, .slice A0_2 l0_2.length c0_2] 27 (0, 0)) (by (with_reducible repeat (first | refine blk_drewN ?_ _ | refine blk_drew ?_ | refine blk_alloc ?_ _)); exact BK239.out)) : gb254 ≠ gb239)); have n10_ := Aside0.mk ((by rw [hg]; exact Nat.ne_of_lt (blk_lt (g := gb243) (o := .cells #[.int .i64 a0_0, .int .u64 0, .slice none 0 0] 27 (0, 0)) (by (with_reducible repeat (first | refine blk_drewN ?_ _ | refine blk_drew ?_ | refine blk_alloc ?_ _)); exact BK243.out)) : gb243 ≠ gb254)); have n11_ := Aside0.mk ((by rw [hg]; exact Nat.ne_of_gt (blk_lt (g := gb243) (o := .cells #[.int .i64 a0_0, .int .u64 0, .slice none 0 0] 27 (0, 0)) (by (with_reducible repeat (first | refine blk_drewN ?_ _ | refine blk_drew ?_ | refine blk_alloc ?_ _)); exact BK243.out)) : gb254 ≠ gb243)); clear HO248; clear HO251; clear BK239; clear BK243; clear HB; have HO248 := n0_; have HO251 := n1_; have BK239 := n2_; have BK243 := n3_; have HB := n4_; have BK254 := n5_; have GW254 := n6_; have GE254 := n7_; have NB239_254 := n8_; have NB254_239 := n9_; have NB243_254 := n10_; have NB254_243 := n11_; clear n0_ n1_ n2_ n3_ n4_ n5_ n6_ n7_ n8_ n9_ n10_ n11_; clear hb hbox hg) | ((with_reducible refine gate_dst (N := 9) rfl ?_); (try (refine gate_guard (by rfl) ?_; dsimp only)); refine box_event ?hg (N := 9) ?hd (cs := #[.slice none 0 0, .int .i64 0]) (t := 33) ?hr ?_; (case hd => rfl); (case hg => rfl); (case hr => first | (go_simp; done) | (go_simp; rfl)); intro gb255 hg w55 hbox hb; have n0_ := Aside0.mk (Kd.V_below (Kd.V_elderB (by (with_reducible repeat (first | apply Kd.V_alloc | apply Kd.V_drewN | apply Kd.V_drew)); exact HO248.out) gb255 (Nat.le_of_eq hg.symm)) hb); have n1_ := Aside0.mk (Kd.V_below (Kd.V_elderB (by (with_reducible repeat (first | apply Kd.V_alloc | apply Kd.V_drewN | apply Kd.V_drew)); exact HO251.out) gb255 (Nat.le_of_eq hg.symm)) hb); have n2_ := Aside0.mk (blk_below (g := gb239) (o := .cells #[.int .i64 a0_0, .int .u64 a0_1, .slice A0_2 l0_2.length c0_2] 27 (0, 0)) (by (with_reducible repeat (first | refine blk_drewN ?_ _ | refine blk_drew ?_ | refine blk_alloc ?_ _)); exact BK239.out) hb); have n3_ := Aside0.mk (blk_below (g := gb243) (o := .cells #[.int .i64 a0_0, .int .u64 0, .slice none 0 0] 27 (0, 0)) (by (with_reducible repeat (first | refine blk_drewN ?_ _ | refine blk_drew ?_ | refine blk_alloc ?_ _)); exact BK243.out) hb); have n4_ := Aside0.mk (blk_below (g := gb254) (o := .cells #[.int .i64 0, .int .u64 0, .slice none 0 0] 27 (0, 0)) (by (with_reducible repeat (first | refine blk_drewN ?_ _ | refine blk_drew ?_ | refine blk_alloc ?_ _)); exact BK254.out) hb); have n5_ := Aside0.mk (below_step (by repeat (first | (with_reducible first | exact HB.out | apply below_alloc | apply pw_below_drewN | apply below_drew1 | refine below_set ?_ GE239.out | refine below_set ?_ GE243.out | refine below_set ?_ GE254.out) | exact HB.out)) hb); have n6_ := Aside0.mk (hbox); have n7_ := Aside0.mk ((by rw [hg]; exact (below_size (by repeat (first | (with_reducible first | exact HB.out | apply below_alloc | apply pw_below_drewN | apply below_drew1 | refine below_set ?_ GE239.out | refine below_set ?_ GE243.out | refine below_set ?_ GE254.out) | exact HB.out))) : w.heap.size ≤ gb255)); have n8_ := Aside0.mk ((by rw [hg]; exact (below_size (by repeat (first | (with_reducible first | exact HB.out | apply below_alloc | apply pw_below_drewN | apply below_drew1 | refine below_set ?_ GE239.out | refine below_set ?_ GE243.out | refine below_set ?_ GE254.out) | exact HB.out))) : w.heap.size ≤ gb255)); have n9_ := Aside0.mk ((by rw [hg]; exact Nat.ne_of_lt (blk_lt (g := gb239) (o := .cells #[.int .i64 a0_0, .int .u64 a0_1, .slice A0_2 l0_2.length c0_2] 27 (0, 0)) (by (with_reducible repeat (first | refine blk_drewN ?_ _ | refine blk_drew ?_ | refine blk_alloc ?_ _)); exact BK239.out)) : gb239 ≠ gb255)); have n10_ := Aside0.mk ((by rw [hg]; exact Nat.ne_of_gt (blk_lt (g := gb239) (o := .cells #[.int .i64 a0_0, .int .u64 a0_1, .slice A0_2 l0_2.length c0_2] 27 (0, 0)) (by (with_reducible repeat (first | refine blk_drewN ?_ _ | refine blk_drew ?_ | refine blk_alloc ?_ _)); exact BK239.out)) : gb255 ≠ gb239)); have n11_ := Aside0.mk ((by rw [hg]; exact Nat.ne_of_lt (blk_lt (g := gb243) (o := .cells #[.int .i64 a0_0, .int .u64 0, .slice none 0 0] 27 (0, 0)) (by (with_reducible repeat (first | refine blk_drewN ?_ _ | refine blk_drew ?_ | refine blk_alloc ?_ _)); exact BK243.out)) : gb243 ≠ gb255)); have n12_ := Aside0.mk ((by rw [hg]; exact Nat.ne_of_gt (blk_lt (g := gb243) (o := .cells #[.int .i64 a0_0, .int .u64 0, .slice none 0 0] 27 (0, 0)) (by (with_reducible repeat (first | refine blk_drewN ?_ _ | refine blk_drew ?_ | refine blk_alloc ?_ _)); exact BK243.out)) : gb255 ≠ gb243)); have n13_ := Aside0.mk ((by rw [hg]; exact Nat.ne_of_lt (blk_lt (g := gb254) (o := .cells #[.int .i64 0, .int .u64 0, .slice none 0 0] 27 (0, 0)) (by (with_reducible repeat (first | refine blk_drewN ?_ _ | refine blk_drew ?_ | refine blk_alloc ?_ _)); exact BK254.out)) : gb254 ≠ gb255)); have n14_ := Aside0.mk ((by rw [hg]; exact Nat.ne_of_gt (blk_lt (g := gb254) (o := .cells #[.int .i64 0, .int .u64 0, .slice none 0 0] 27 (0, 0)) (by (with_reducible repeat (first | refine blk_drewN ?_ _ | refine blk_drew ?_ | refine blk_alloc ?_ _)); exact BK254.out)) : gb255 ≠ gb254)); clear HO248; clear HO251; clear BK239; clear BK243; clear BK254; clear HB; have HO248 := n0_; have HO251 := n1_; have BK239 := n2_; have BK243 := n3_; have BK254 := n4_; have HB := n5_; have BK255 := n6_; have GW255 := n7_; have GE255 := n8_; have NB239_255 := n9_; have NB255_239 := n10_; have NB243_255 := n11_; have NB255_243 := n12_; have NB254_255 := n13_; have NB255_254 := n14_; clear n0_ n1_ n2_ n3_ n4_ n5_ n6_ n7_ n8_ n9_ n10_ n11_ n12_ n13_ n14_; clear hb hbox hg; have hnb56 := NB254_239.out; have hnc56 := NB239_254.out; have hnb57 := NB254_243.out; have hnc57 := NB243_254.out; have hnb58 := NB254_255.out; have hnc58 := NB255_254.out; have hcz59_0 : w55.cell? ⟨gb254, 0, none⟩ = some (.int .i64 0) := (blk_cell BK254.out 0).trans rfl; have hcz59_1 : w55.cell? ⟨gb254, 1, none⟩ = some (.int .u64 0) := (blk_cell BK254.out 1).trans rfl; have hcz59_2 : w55.cell? ⟨gb254, 2, none⟩ = some (.slice none 0 0) := (blk_cell BK254.out 2).trans rfl; have hfz59_0 := blk_frozen BK254.out 0; have hfz59_1 := blk_frozen BK254.out 1; have hfz59_2 := blk_frozen BK254.out 2; obtain ⟨Ao60, co60, eo60⟩ := Kd.V_slice HO248.out; subst eo60) | ((with_reducible refine gate_store (t := 27) (p := 8) rfl ?_); refine store_event (t := 27) (p := 8) (v := ?vo_w61) (w1 := (((w55.setCell ⟨gb254, 0, none⟩ (.int .i64 t244)).setCell ⟨gb254, 1, none⟩ (.int .u64 t245)).setCell ⟨gb254, 2, none⟩ (.slice Ao60 t246.length co60))) ?hg ?ho ?hn ?hr ?_; (case ho => rfl); (case hg => rfl); (case hn => rfl); (case hr => first | (go_simp; done) | (go_simp; rfl)); intro w61 hw; have n0_ : Aside0 (Kd.V Kd.string 9 w61 w.heap.size (fun k_ => k_ ≠ gb239 ∧ k_ ≠ gb243 ∧ k_ ≠ gb254 ∧ k_ ≠ gb255) (.slice Ao60 t246.length co60) t246) := ⟨(by rw [hw]; exact (by (with_reducible repeat (first | apply Kd.V_alloc | apply Kd.V_drewN | apply Kd.V_drew)); exact Kd.V_mono (Kd.V_far (p := ⟨gb254, 2, none⟩) (Kd.V_far (p := ⟨gb254, 1, none⟩) (Kd.V_far (p := ⟨gb254, 0, none⟩) (Kd.V_mono HO248.out (fun k_ hk => (⟨hk, hk.1.2⟩ : _ ∧ k_ ≠ gb254))) (fun _ hk => hk.2) (.int .i64 t244)) (fun _ hk => hk.2) (.int .u64 t245)) (fun _ hk => hk.2) (.slice Ao60 t246.length co60)) (fun _ hk => ⟨hk.1.1.1.1, ⟨hk.1.1.1.2, ⟨hk.1.1.2, hk.1.2⟩⟩⟩)))⟩; have n1_ : Aside0 (Kd.V (Kd.int .u64) 24 w61 w.heap.size (fun k_ => k_ ≠ gb239 ∧ k_ ≠ gb243 ∧ k_ ≠ gb254 ∧ k_ ≠ gb255) v250 t249) := ⟨(by rw [hw]; exact (by (with_reducible repeat (first | apply Kd.V_alloc | apply Kd.V_drewN | apply Kd.V_drew)); exact Kd.V_mono (Kd.V_far (p := ⟨gb254, 2, none⟩) (Kd.V_far (p := ⟨gb254, 1, none⟩) (Kd.V_far (p := ⟨gb254, 0, none⟩) (Kd.V_mono HO251.out (fun k_ hk => (⟨hk, hk.1.2⟩ : _ ∧ k_ ≠ gb254))) (fun _ hk => hk.2) (.int .i64 t244)) (fun _ hk => hk.2) (.int .u64 t245)) (fun _ hk => hk.2) (.slice Ao60 t246.length co60)) (fun _ hk => ⟨hk.1.1.1.1, ⟨hk.1.1.1.2, ⟨hk.1.1.2, hk.1.2⟩⟩⟩)))⟩; have n2_ : Aside0 (w61.heap[gb239]? = some (.cells #[.int .i64 a0_0, .int .u64 a0_1, .slice A0_2 l0_2.length c0_2] 27 (0, 0))) := ⟨(by rw [hw]; exact (by (with_reducible repeat (first | refine blk_drewN ?_ _ | refine blk_drew ?_ | refine blk_alloc ?_ _)); refine blk_far ?_ NB239_254.out _; (with_reducible repeat (first | refine blk_drewN ?_ _ | refine blk_drew ?_ | refine blk_alloc ?_ _)); refine blk_far ?_ NB239_254.out _; (with_reducible repeat (first | refine blk_drewN ?_ _ | refine blk_drew ?_ | refine blk_alloc ?_ _)); refine blk_far ?_ NB239_254.out _; (with_reducible repeat (first | refine blk_drewN ?_ _ | refine blk_drew ?_ | refine blk_alloc ?_ _)); exact BK239.out))⟩; have n3_ : Aside0 (w61.heap[gb243]? = some (.cells #[.int .i64 a0_0, .int .u64 0, .slice none 0 0] 27 (0, 0))) := ⟨(by rw [hw]; exact (by (with_reducible repeat (first | refine blk_drewN ?_ _ | refine blk_drew ?_ | refine blk_alloc ?_ _)); refine blk_far ?_ NB243_254.out _; (with_reducible repeat (first | refine blk_drewN ?_ _ | refine blk_drew ?_ | refine blk_alloc ?_ _)); refine blk_far ?_ NB243_254.out _; (with_reducible repeat (first | refine blk_drewN ?_ _ | refine blk_drew ?_ | refine blk_alloc ?_ _)); refine blk_far ?_ NB243_254.out _; (with_reducible repeat (first | refine blk_drewN ?_ _ | refine blk_drew ?_ | refine blk_alloc ?_ _)); exact BK243.out))⟩; have n4_ : Aside0 (w61.heap[gb254]? = some (.cells #[.int .i64 t244, .int .u64 t245, .slice Ao60 t246.length co60] 27 (0, 0))) := ⟨(by rw [hw]; exact (by (with_reducible repeat (first | refine blk_drewN ?_ _ | refine blk_drew ?_ | refine blk_alloc ?_ _)); refine blk_put (cs := #[.int .i64 t244, .int .u64 t245, .slice none 0 0]) ?_ 2 _ rfl; (with_reducible repeat (first | refine blk_drewN ?_ _ | refine blk_drew ?_ | refine blk_alloc ?_ _)); refine blk_put (cs := #[.int .i64 t244, .int .u64 0, .slice none 0 0]) ?_ 1 _ rfl; (with_reducible repeat (first | refine blk_drewN ?_ _ | refine blk_drew ?_ | refine blk_alloc ?_ _)); refine blk_put (cs := #[.int .i64 0, .int .u64 0, .slice none 0 0]) ?_ 0 _ rfl; (with_reducible repeat (first | refine blk_drewN ?_ _ | refine blk_drew ?_ | refine blk_alloc ?_ _)); exact BK254.out))⟩; have n5_ : Aside0 (w61.heap[gb255]? = some (.cells #[.slice none 0 0, .int .i64 0] 33 (0, 0))) := ⟨(by rw [hw]; exact (by (with_reducible repeat (first | refine blk_drewN ?_ _ | refine blk_drew ?_ | refine blk_alloc ?_ _)); refine blk_far ?_ NB255_254.out _; (with_reducible repeat (first | refine blk_drewN ?_ _ | refine blk_drew ?_ | refine blk_alloc ?_ _)); refine blk_far ?_ NB255_254.out _; (with_reducible repeat (first | refine blk_drewN ?_ _ | refine blk_drew ?_ | refine blk_alloc ?_ _)); refine blk_far ?_ NB255_254.out _; (with_reducible repeat (first | refine blk_drewN ?_ _ | refine blk_drew ?_ | refine blk_alloc ?_ _)); exact BK255.out))⟩; have n6_ : Aside0 (Below w.heap.size w w61) := ⟨(by rw [hw]; exact (by repeat (first | (with_reducible first | exact HB.out | apply below_alloc | apply pw_below_drewN | apply below_drew1 | refine below_set ?_ GE239.out | refine below_set ?_ GE243.out | refine below_set ?_ GE254.out | refine below_set ?_ GE255.out) | exact HB.out)))⟩; clear hw; clear HO248; clear HO251; clear BK239; clear BK243; clear BK254; clear BK255; clear HB; have HO248 := n0_; have HO251 := n1_; have BK239 := n2_; have BK243 := n3_; have BK254 := n4_; have BK255 := n5_; have HB := n6_; clear n0_ n1_ n2_ n3_ n4_ n5_ n6_; obtain ⟨Ao62, co62, eo62⟩ := Kd.V_slice HO251.out; subst eo62; have hnb63 := NB255_239.out; have hnc63 := NB239_255.out; have hnb64 := NB255_243.out; have hnc64 := NB243_255.out; have hcz65_0 : w61.cell? ⟨gb255, 0, none⟩ = some (.slice none 0 0) := (blk_cell BK255.out 0).trans rfl; have hcz65_1 : w61.cell? ⟨gb255, 1, none⟩ = some (.int .i64 0) := (blk_cell BK255.out 1).trans rfl; have hfz65_0 := blk_frozen BK255.out 0; have hfz65_1 := blk_frozen BK255.out 1) | ((with_reducible refine gate_store (t := 33) (p := 9) rfl ?_); refine store_event (t := 33) (p := 9) (v := ?vo_w66) (w1 := ((w61.setCell ⟨gb255, 0, none⟩ (.slice Ao62 t249.length co62)).setCell ⟨gb255, 1, none⟩ (.int .i64 t252))) ?hg ?ho ?hn ?hr ?_; (case ho => rfl); (case hg => rfl); (case hn => rfl); (case hr => first | (go_simp; done) | (go_simp; rfl)); intro w66 hw; have n0_ : Aside0 (Kd.V Kd.string 9 w66 w.heap.size (fun k_ => k_ ≠ gb239 ∧ k_ ≠ gb243 ∧ k_ ≠ gb254 ∧ k_ ≠ gb255) (.slice Ao60 t246.length co60) t246) := ⟨(by rw [hw]; exact (by (with_reducible repeat (first | apply Kd.V_alloc | apply Kd.V_drewN | apply Kd.V_drew)); exact Kd.V_mono (Kd.V_far (p := ⟨gb255, 1, none⟩) (Kd.V_far (p := ⟨gb255, 0, none⟩) (Kd.V_mono HO248.out (fun k_ hk => (⟨hk, hk.2.2.2⟩ : _ ∧ k_ ≠ gb255))) (fun _ hk => hk.2) (.slice Ao62 t249.length co62)) (fun _ hk => hk.2) (.int .i64 t252)) (fun _ hk => ⟨hk.1.1, ⟨hk.1.2.1, ⟨hk.1.2.2.1, hk.1.2.2.2⟩⟩⟩)))⟩; have n1_ : Aside0 (Kd.V (Kd.int .u64) 24 w66 w.heap.size (fun k_ => k_ ≠ gb239 ∧ k_ ≠ gb243 ∧ k_ ≠ gb254 ∧ k_ ≠ gb255) (.slice Ao62 t249.length co62) t249) := ⟨(by rw [hw]; exact (by (with_reducible repeat (first | apply Kd.V_alloc | apply Kd.V_drewN | apply Kd.V_drew)); exact Kd.V_mono (Kd.V_far (p := ⟨gb255, 1, none⟩) (Kd.V_far (p := ⟨gb255, 0, none⟩) (Kd.V_mono HO251.out (fun k_ hk => (⟨hk, hk.2.2.2⟩ : _ ∧ k_ ≠ gb255))) (fun _ hk => hk.2) (.slice Ao62 t249.length co62)) (fun _ hk => hk.2) (.int .i64 t252)) (fun _ hk => ⟨hk.1.1, ⟨hk.1.2.1, ⟨hk.1.2.2.1, hk.1.2.2.2⟩⟩⟩)))⟩; have n2_ : Aside0 (w66.heap[gb239]? = some (.cells #[.int .i64 a0_0, .int .u64 a0_1, .slice A0_2 l0_2.length c0_2] 27 (0, 0))) := ⟨(by rw [hw]; exact (by (with_reducible repeat (first | refine blk_drewN ?_ _ | refine blk_drew ?_ | refine blk_alloc ?_ _)); refine blk_far ?_ NB239_255.out _; (with_reducible repeat (first | refine blk_drewN ?_ _ | refine blk_drew ?_ | refine blk_alloc ?_ _)); refine blk_far ?_ NB239_255.out _; (with_reducible repeat (first | refine blk_drewN ?_ _ | refine blk_drew ?_ | refine blk_alloc ?_ _)); exact BK239.out))⟩; have n3_ : Aside0 (w66.heap[gb243]? = some (.cells #[.int .i64 a0_0, .int .u64 0, .slice none 0 0] 27 (0, 0))) := ⟨(by rw [hw]; exact (by (with_reducible repeat (first | refine blk_drewN ?_ _ | refine blk_drew ?_ | refine blk_alloc ?_ _)); refine blk_far ?_ NB243_255.out _; (with_reducible repeat (first | refine blk_drewN ?_ _ | refine blk_drew ?_ | refine blk_alloc ?_ _)); refine blk_far ?_ NB243_255.out _; (with_reducible repeat (first | refine blk_drewN ?_ _ | refine blk_drew ?_ | refine blk_alloc ?_ _)); exact BK243.out))⟩; have n4_ : Aside0 (w66.heap[gb254]? = some (.cells #[.int .i64 t244, .int .u64 t245, .slice Ao60 t246.length co60] 27 (0, 0))) := ⟨(by rw [hw]; exact (by (with_reducible repeat (first | refine blk_drewN ?_ _ | refine blk_drew ?_ | refine blk_alloc ?_ _)); refine blk_far ?_ NB254_255.out _; (with_reducible repeat (first | refine blk_drewN ?_ _ | refine blk_drew ?_ | refine blk_alloc ?_ _)); refine blk_far ?_ NB254_255.out _; (with_reducible repeat (first | refine blk_drewN ?_ _ | refine blk_drew ?_ | refine blk_alloc ?_ _)); exact BK254.out))⟩; have n5_ : Aside0 (w66.heap[gb255]? = some (.cells #[.slice Ao62 t249.length co62, .int .i64 t252] 33 (0, 0))) := ⟨(by rw [hw]; exact (by (with_reducible repeat (first | refine blk_drewN ?_ _ | refine blk_drew ?_ | refine blk_alloc ?_ _)); refine blk_put (cs := #[.slice Ao62 t249.length co62, .int .i64 0]) ?_ 1 _ rfl; (with_reducible repeat (first | refine blk_drewN ?_ _ | refine blk_drew ?_ | refine blk_alloc ?_ _)); refine blk_put (cs := #[.slice none 0 0, .int .i64 0]) ?_ 0 _ rfl; (with_reducible repeat (first | refine blk_drewN ?_ _ | refine blk_drew ?_ | refine blk_alloc ?_ _)); exact BK255.out))⟩; have n6_ : Aside0 (Below w.heap.size w w66) := ⟨(by rw [hw]; exact (by repeat (first | (with_reducible first | exact HB.out | apply below_alloc | apply pw_below_drewN | apply below_drew1 | refine below_set ?_ GE239.out | refine below_set ?_ GE243.out | refine below_set ?_ GE254.out | refine below_set ?_ GE255.out) | exact HB.out)))⟩; clear hw; clear HO248; clear HO251; clear BK239; clear BK243; clear BK254; clear BK255; clear HB; have HO248 := n0_; have HO251 := n1_; have BK239 := n2_; have BK243 := n3_; have BK254 := n4_; have BK255 := n5_; have HB := n6_; clear n0_ n1_ n2_ n3_ n4_ n5_ n6_; have hcz67_0 : w66.cell? ⟨gb239, 0, none⟩ = some (.int .i64 a0_0) := (blk_cell BK239.out 0).trans rfl; have hcz67_1 : w66.cell? ⟨gb239, 1, none⟩ = some (.int .u64 a0_1) := (blk_cell BK239.out 1).trans rfl; have hcz67_2 : w66.cell? ⟨gb239, 2, none⟩ = some (.slice A0_2 l0_2.length c0_2) := (blk_cell BK239.out 2).trans rfl; have hfz67_0 := blk_frozen BK239.out 0; have hfz67_1 := blk_frozen BK239.out 1; have hfz67_2 := blk_frozen BK239.out 2; have hcz68_0 : w66.cell? ⟨gb243, 0, none⟩ = some (.int .i64 a0_0) := (blk_cell BK243.out 0).trans rfl; have hcz68_1 : w66.cell? ⟨gb243, 1, none⟩ = some (.int .u64 0) := (blk_cell BK243.out 1).trans rfl; have hcz68_2 : w66.cell? ⟨gb243, 2, none⟩ = some (.slice none 0 0) := (blk_cell BK243.out 2).trans rfl; have hfz68_0 := blk_frozen BK243.out 0; have hfz68_1 := blk_frozen BK243.out 1; have hfz68_2 := blk_frozen BK243.out 2) | ((with_reducible refine gate_callee (f := 18) rfl ?_); refine goesL_ (some 57) rfl rfl Try.func18 (by kernel_rfl) rfl #[.agg #[.int .i64 a0_0, .int .u64 a0_1, .slice A0_2 l0_2.length c0_2], .agg #[.int .i64 a0_0, .int .u64 0, .slice none 0 0], .agg #[.slice none 0 0, .int .i64 0]] rfl (by (try simp only [List.map_toArray, List.map_cons, List.map_nil]); first | done | rfl | (simp only [List.length_drop, List.length_take]; rfl)) ?_; (refine (slots_Merge.calls kj3 a0_0 a0_1 (fun k_ => k_ < w.heap.size) _ _ l0_2 a0_0 0 (fun k_ => False) _ _ ([] : List ByteArray) (fun k_ => False) _ _ ([] : List Int) 0 t256 t257 t258 t261 t264 t265 _ ?side1 ?side2 ?side3 A28.out).mono ?_); (case side1 => exact Kd.V_mk HC0_2.out (Kd.F_below (Kd.C_F Kd.heap_string HR0_2.out) (by repeat (first | (with_reducible first | exact HB.out | apply below_alloc | apply pw_below_drewN | apply below_drew1 | refine below_set ?_ GE239.out | refine below_set ?_ GE243.out | refine below_set ?_ GE254.out | refine below_set ?_ GE255.out) | exact HB.out)))); (case side2 => exact Kd.V_nil _ _ _ _ _); (case side3 => exact Kd.V_nil _ _ _ _ _); rintro e w69 ⟨v259, v262, rfl, ho0, ho1, hb⟩; refine ⟨_, rfl, ?_⟩; have n0_ := Aside0.mk (Kd.V_below (by (with_reducible repeat (first | apply Kd.V_alloc | apply Kd.V_drewN | apply Kd.V_drew)); exact HO248.out) hb); have n1_ := Aside0.mk (Kd.V_below (by (with_reducible repeat (first | apply Kd.V_alloc | apply Kd.V_drewN | apply Kd.V_drew)); exact HO251.out) hb); have n2_ := Aside0.mk (Kd.V_lower (Kd.V_mono (ok' := fun k_ => k_ ≠ gb239 ∧ k_ ≠ gb243 ∧ k_ ≠ gb254 ∧ k_ ≠ gb255) ho0 (fun k_ hk_ => ⟨Or.elim hk_ (fun hs_ => Or.elim hs_ (fun hs_ => fun e_ => Nat.not_le.2 hs_ (by rw [e_]; exact GW239.out)) (fun hs_ => Or.elim hs_ (fun hs_ => (hs_).elim) (fun hs_ => (hs_).elim))) (fun hn_ => (Kd.freshB (g := gb239) (o := .cells #[.int .i64 a0_0, .int .u64 a0_1, .slice A0_2 l0_2.length c0_2] 27 (0, 0)) (by (with_reducible repeat (first | refine blk_drewN ?_ _ | refine blk_drew ?_ | refine blk_alloc ?_ _)); exact BK239.out) k_ hn_)), Or.elim hk_ (fun hs_ => Or.elim hs_ (fun hs_ => fun e_ => Nat.not_le.2 hs_ (by rw [e_]; exact GW243.out)) (fun hs_ => Or.elim hs_ (fun hs_ => (hs_).elim) (fun hs_ => (hs_).elim))) (fun hn_ => (Kd.freshB (g := gb243) (o := .cells #[.int .i64 a0_0, .int .u64 0, .slice none 0 0] 27 (0, 0)) (by (with_reducible repeat (first | refine blk_drewN ?_ _ | refine blk_drew ?_ | refine blk_alloc ?_ _)); exact BK243.out) k_ hn_)), Or.elim hk_ (fun hs_ => Or.elim hs_ (fun hs_ => fun e_ => Nat.not_le.2 hs_ (by rw [e_]; exact GW254.out)) (fun hs_ => Or.elim hs_ (fun hs_ => (hs_).elim) (fun hs_ => (hs_).elim))) (fun hn_ => (Kd.freshB (g := gb254) (o := .cells #[.int .i64 t244, .int .u64 t245, .slice Ao60 t246.length co60] 27 (0, 0)) (by (with_reducible repeat (first | refine blk_drewN ?_ _ | refine blk_drew ?_ | refine blk_alloc ?_ _)); exact BK254.out) k_ hn_)), Or.elim hk_ (fun hs_ => Or.elim hs_ (fun hs_ => fun e_ => Nat.not_le.2 hs_ (by rw [e_]; exact GW255.out)) (fun hs_ => Or.elim hs_ (fun hs_ => (hs_).elim) (fun hs_ => (hs_).elim))) (fun hn_ => (Kd.freshB (g := gb255) (o := .cells #[.slice Ao62 t249.length co62, .int .i64 t252] 33 (0, 0)) (by (with_reducible repeat (first | refine blk_drewN ?_ _ | refine blk_drew ?_ | refine blk_alloc ?_ _)); exact BK255.out) k_ hn_))⟩)) (below_size (by repeat (first | (with_reducible first | exact HB.out | apply below_alloc | apply pw_below_drewN | apply below_drew1 | refine below_set ?_ GE239.out | refine below_set ?_ GE243.out | refine below_set ?_ GE254.out | refine below_set ?_ GE255.out) | exact HB.out)))); have n3_ := Aside0.mk (Kd.V_lower (Kd.V_mono (ok' := fun k_ => k_ ≠ gb239 ∧ k_ ≠ gb243 ∧ k_ ≠ gb254 ∧ k_ ≠ gb255) ho1 (fun k_ hk_ => ⟨Or.elim hk_ (fun hs_ => Or.elim hs_ (fun hs_ => fun e_ => Nat.not_le.2 hs_ (by rw [e_]; exact GW239.out)) (fun hs_ => Or.elim hs_ (fun hs_ => (hs_).elim) (fun hs_ => (hs_).elim))) (fun hn_ => (Kd.freshB (g := gb239) (o := .cells #[.int .i64 a0_0, .int .u64 a0_1, .slice A0_2 l0_2.length c0_2] 27 (0, 0)) (by (with_reducible repeat (first | refine blk_drewN ?_ _ | refine blk_drew ?_ | refine blk_alloc ?_ _)); exact BK239.out) k_ hn_)), Or.elim hk_ (fun hs_ => Or.elim hs_ (fun hs_ => fun e_ => Nat.not_le.2 hs_ (by rw [e_]; exact GW243.out)) (fun hs_ => Or.elim hs_ (fun hs_ => (hs_).elim) (fun hs_ => (hs_).elim))) (fun hn_ => (Kd.freshB (g := gb243) (o := .cells #[.int .i64 a0_0, .int .u64 0, .slice none 0 0] 27 (0, 0)) (by (with_reducible repeat (first | refine blk_drewN ?_ _ | refine blk_drew ?_ | refine blk_alloc ?_ _)); exact BK243.out) k_ hn_)), Or.elim hk_ (fun hs_ => Or.elim hs_ (fun hs_ => fun e_ => Nat.not_le.2 hs_ (by rw [e_]; exact GW254.out)) (fun hs_ => Or.elim hs_ (fun hs_ => (hs_).elim) (fun hs_ => (hs_).elim))) (fun hn_ => (Kd.freshB (g := gb254) (o := .cells #[.int .i64 t244, .int .u64 t245, .slice Ao60 t246.length co60] 27 (0, 0)) (by (with_reducible repeat (first | refine blk_drewN ?_ _ | refine blk_drew ?_ | refine blk_alloc ?_ _)); exact BK254.out) k_ hn_)), Or.elim hk_ (fun hs_ => Or.elim hs_ (fun hs_ => fun e_ => Nat.not_le.2 hs_ (by rw [e_]; exact GW255.out)) (fun hs_ => Or.elim hs_ (fun hs_ => (hs_).elim) (fun hs_ => (hs_).elim))) (fun hn_ => (Kd.freshB (g := gb255) (o := .cells #[.slice Ao62 t249.length co62, .int .i64 t252] 33 (0, 0)) (by (with_reducible repeat (first | refine blk_drewN ?_ _ | refine blk_drew ?_ | refine blk_alloc ?_ _)); exact BK255.out) k_ hn_))⟩)) (below_size (by repeat (first | (with_reducible first | exact HB.out | apply below_alloc | apply pw_below_drewN | apply below_drew1 | refine below_set ?_ GE239.out | refine below_set ?_ GE243.out | refine below_set ?_ GE254.out | refine below_set ?_ GE255.out) | exact HB.out)))); have n4_ := Aside0.mk (blk_below (g := gb239) (o := .cells #[.int .i64 a0_0, .int .u64 a0_1, .slice A0_2 l0_2.length c0_2] 27 (0, 0)) (by (with_reducible repeat (first | refine blk_drewN ?_ _ | refine blk_drew ?_ | refine blk_alloc ?_ _)); exact BK239.out) hb); have n5_ := Aside0.mk (blk_below (g := gb243) (o := .cells #[.int .i64 a0_0, .int .u64 0, .slice none 0 0] 27 (0, 0)) (by (with_reducible repeat (first | refine blk_drewN ?_ _ | refine blk_drew ?_ | refine blk_alloc ?_ _)); exact BK243.out) hb); have n6_ := Aside0.mk (blk_below (g := gb254) (o := .cells #[.int .i64 t244, .int .u64 t245, .slice Ao60 t246.length co60] 27 (0, 0)) (by (with_reducible repeat (first | refine blk_drewN ?_ _ | refine blk_drew ?_ | refine blk_alloc ?_ _)); exact BK254.out) hb); have n7_ := Aside0.mk (blk_below (g := gb255) (o := .cells #[.slice Ao62 t249.length co62, .int .i64 t252] 33 (0, 0)) (by (with_reducible repeat (first | refine blk_drewN ?_ _ | refine blk_drew ?_ | refine blk_alloc ?_ _)); exact BK255.out) hb); have n8_ := Aside0.mk (below_step (by repeat (first | (with_reducible first | exact HB.out | apply below_alloc | apply pw_below_drewN | apply below_drew1 | refine below_set ?_ GE239.out | refine below_set ?_ GE243.out | refine below_set ?_ GE254.out | refine below_set ?_ GE255.out) | exact HB.out)) hb); clear HO248; clear HO251; clear BK239; clear BK243; clear BK254; clear BK255; clear HB; have HO248 := n0_; have HO251 := n1_; have HO260 := n2_; have HO263 := n3_; have BK239 := n4_; have BK243 := n5_; have BK254 := n6_; have BK255 := n7_; have HB := n8_; clear n0_ n1_ n2_ n3_ n4_ n5_ n6_ n7_ n8_; (try clear hb); (try clear hb2); (try clear hk); (try clear hi); (try clear ho0); (try clear ho1)) | ((with_reducible refine gate_dst (N := 11) rfl ?_); (try (refine gate_guard (by rfl) ?_; dsimp only)); refine box_event ?hg (N := 11) ?hd (cs := #[.int .i64 0, .int .u64 0, .slice none 0 0]) (t := 27) ?hr ?_; (case hd => rfl); (case hg => rfl); (case hr => first | (go_simp; done) | (go_simp; rfl)); intro gb266 hg w70 hbox hb; have n0_ := Aside0.mk (Kd.V_below (Kd.V_elderB (by (with_reducible repeat (first | apply Kd.V_alloc | apply Kd.V_drewN | apply Kd.V_drew)); exact HO248.out) gb266 (Nat.le_of_eq hg.symm)) hb); have n1_ := Aside0.mk (Kd.V_below (Kd.V_elderB (by (with_reducible repeat (first | apply Kd.V_alloc | apply Kd.V_drewN | apply Kd.V_drew)); exact HO251.out) gb266 (Nat.le_of_eq hg.symm)) hb); have n2_ := Aside0.mk (Kd.V_below (Kd.V_elderB (by (with_reducible repeat (first | apply Kd.V_alloc | apply Kd.V_drewN | apply Kd.V_drew)); exact HO260.out) gb266 (Nat.le_of_eq hg.symm)) hb); have n3_ := Aside0.mk (Kd.V_below (Kd.V_elderB (by (with_reducible repeat (first | apply Kd.V_alloc | apply Kd.V_drewN | apply Kd.V_drew)); exact HO263.out) gb266 (Nat.le_of_eq hg.symm)) hb); have n4_ := Aside0.mk (blk_below (g := gb239) (o := .cells #[.int .i64 a0_0, .int .u64 a0_1, .slice A0_2 l0_2.length c0_2] 27 (0, 0)) (by (with_reducible repeat (first | refine blk_drewN ?_ _ | refine blk_drew ?_ | refine blk_alloc ?_ _)); exact BK239.out) hb); have n5_ := Aside0.mk (blk_below (g := gb243) (o := .cells #[.int .i64 a0_0, .int .u64 0, .slice none 0 0] 27 (0, 0)) (by (with_reducible repeat (first | refine blk_drewN ?_ _ | refine blk_drew ?_ | refine blk_alloc ?_ _)); exact BK243.out) hb); have n6_ := Aside0.mk (blk_below (g := gb254) (o := .cells #[.int .i64 t244, .int .u64 t245, .slice Ao60 t246.length co60] 27 (0, 0)) (by (with_reducible repeat (first | refine blk_drewN ?_ _ | refine blk_drew ?_ | refine blk_alloc ?_ _)); exact BK254.out) hb); have n7_ := Aside0.mk (blk_below (g := gb255) (o := .cells #[.slice Ao62 t249.length co62, .int .i64 t252] 33 (0, 0)) (by (with_reducible repeat (first | refine blk_drewN ?_ _ | refine blk_drew ?_ | refine blk_alloc ?_ _)); exact BK255.out) hb); have n8_ := Aside0.mk (below_step (by repeat (first | (with_reducible first | exact HB.out | apply below_alloc | apply pw_below_drewN | apply below_drew1 | refine below_set ?_ GE239.out | refine below_set ?_ GE243.out | refine below_set ?_ GE254.out | refine below_set ?_ GE255.out) | exact HB.out)) hb); have n9_ := Aside0.mk (hbox); have n10_ := Aside0.mk ((by rw [hg]; exact (below_size (by repeat (first | (with_reducible first | exact HB.out | apply below_alloc | apply pw_below_drewN | apply below_drew1 | refine below_set ?_ GE239.out | refine below_set ?_ GE243.out | refine below_set ?_ GE254.out | refine below_set ?_ GE255.out) | exact HB.out))) : w.heap.size ≤ gb266)); have n11_ := Aside0.mk ((by rw [hg]; exact (below_size (by repeat (first | (with_reducible first | exact HB.out | apply below_alloc | apply pw_below_drewN | apply below_drew1 | refine below_set ?_ GE239.out | refine below_set ?_ GE243.out | refine below_set ?_ GE254.out | refine below_set ?_ GE255.out) | exact HB.out))) : w.heap.size ≤ gb266)); have n12_ := Aside0.mk ((by rw [hg]; exact Nat.ne_of_lt (blk_lt (g := gb239) (o := .cells #[.int .i64 a0_0, .int .u64 a0_1, .slice A0_2 l0_2.length c0_2] 27 (0, 0)) (by (with_reducible repeat (first | refine blk_drewN ?_ _ | refine blk_drew ?_ | refine blk_alloc ?_ _)); exact BK239.out)) : gb239 ≠ gb266)); have n13_ := Aside0.mk ((by rw [hg]; exact Nat.ne_of_gt (blk_lt (g := gb239) (o := .cells #[.int .i64 a0_0, .int .u64 a0_1, .slice A0_2 l0_2.length c0_2] 27 (0, 0)) (by (with_reducible repeat (first | refine blk_drewN ?_ _ | refine blk_drew ?_ | refine blk_alloc ?_ _)); exact BK239.out)) : gb266 ≠ gb239)); have n14_ := Aside0.mk ((by rw [hg]; exact Nat.ne_of_lt (blk_lt (g := gb243) (o := .cells #[.int .i64 a0_0, .int .u64 0, .slice none 0 0] 27 (0, 0)) (by (with_reducible repeat (first | refine blk_drewN ?_ _ | refine blk_drew ?_ | refine blk_alloc ?_ _)); exact BK243.out)) : gb243 ≠ gb266)); have n15_ := Aside0.mk ((by rw [hg]; exact Nat.ne_of_gt (blk_lt (g := gb243) (o := .cells #[.int .i64 a0_0, .int .u64 0, .slice none 0 0] 27 (0, 0)) (by (with_reducible repeat (first | refine blk_drewN ?_ _ | refine blk_drew ?_ | refine blk_alloc ?_ _)); exact BK243.out)) : gb266 ≠ gb243)); have n16_ := Aside0.mk ((by rw [hg]; exact Nat.ne_of_lt (blk_lt (g := gb254) (o := .cells #[.int .i64 t244, .int .u64 t245, .slice Ao60 t246.length co60] 27 (0, 0)) (by (with_reducible repeat (first | refine blk_drewN ?_ _ | refine blk_drew ?_ | refine blk_alloc ?_ _)); exact BK254.out)) : gb254 ≠ gb266)); have n17_ := Aside0.mk ((by rw [hg]; exact Nat.ne_of_gt (blk_lt (g := gb254) (o := .cells #[.int .i64 t244, .int .u64 t245, .slice Ao60 t246.length co60] 27 (0, 0)) (by (with_reducible repeat (first | refine blk_drewN ?_ _ | refine blk_drew ?_ | refine blk_alloc ?_ _)); exact BK254.out)) : gb266 ≠ gb254)); have n18_ := Aside0.mk ((by rw [hg]; exact Nat.ne_of_lt (blk_lt (g := gb255) (o := .cells #[.slice Ao62 t249.length co62, .int .i64 t252] 33 (0, 0)) (by (with_reducible repeat (first | refine blk_drewN ?_ _ | refine blk_drew ?_ | refine blk_alloc ?_ _)); exact BK255.out)) : gb255 ≠ gb266)); have n19_ := Aside0.mk ((by rw [hg]; exact Nat.ne_of_gt (blk_lt (g := gb255) (o := .cells #[.slice Ao62 t249.length co62, .int .i64 t252] 33 (0, 0)) (by (with_reducible repeat (first | refine blk_drewN ?_ _ | refine blk_drew ?_ | refine blk_alloc ?_ _)); exact BK255.out)) : gb266 ≠ gb255)); clear HO248; clear HO251; clear HO260; clear HO263; clear BK239; clear BK243; clear BK254; clear BK255; clear HB; have HO248 := n0_; have HO251 := n1_; have HO260 := n2_; have HO263 := n3_; have BK239 := n4_; have BK243 := n5_; have BK254 := n6_; have BK255 := n7_; have HB := n8_; have BK266 := n9_; have GW266 := n10_; have GE266 := n11_; have NB239_266 := n12_; have NB266_239 := n13_; have NB243_266 := n14_; have NB266_243 := n15_; have NB254_266 := n16_; have NB266_254 := n17_; have NB255_266 := n18_; have NB266_255 := n19_; clear n0_ n1_ n2_ n3_ n4_ n5_ n6_ n7_ n8_ n9_ n10_ n11_ n12_ n13_ n14_ n15_ n16_ n17_ n18_ n19_; clear hb hbox hg) | ((with_reducible refine gate_dst (N := 12) rfl ?_); (try (refine gate_guard (by rfl) ?_; dsimp only)); refine box_event ?hg (N := 12) ?hd (cs := #[.slice none 0 0, .int .i64 0]) (t := 33) ?hr ?_; (case hd => rfl); (case hg => rfl); (case hr => first | (go_simp; done) | (go_simp; rfl)); intro gb267 hg w71 hbox hb; have n0_ := Aside0.mk (Kd.V_below (Kd.V_elderB (by (with_reducible repeat (first | apply Kd.V_alloc | apply Kd.V_drewN | apply Kd.V_drew)); exact HO248.out) gb267 (Nat.le_of_eq hg.symm)) hb); have n1_ := Aside0.mk (Kd.V_below (Kd.V_elderB (by (with_reducible repeat (first | apply Kd.V_alloc | apply Kd.V_drewN | apply Kd.V_drew)); exact HO251.out) gb267 (Nat.le_of_eq hg.symm)) hb); have n2_ := Aside0.mk (Kd.V_below (Kd.V_elderB (by (with_reducible repeat (first | apply Kd.V_alloc | apply Kd.V_drewN | apply Kd.V_drew)); exact HO260.out) gb267 (Nat.le_of_eq hg.symm)) hb); have n3_ := Aside0.mk (Kd.V_below (Kd.V_elderB (by (with_reducible repeat (first | apply Kd.V_alloc | apply Kd.V_drewN | apply Kd.V_drew)); exact HO263.out) gb267 (Nat.le_of_eq hg.symm)) hb); have n4_ := Aside0.mk (blk_below (g := gb239) (o := .cells #[.int .i64 a0_0, .int .u64 a0_1, .slice A0_2 l0_2.length c0_2] 27 (0, 0)) (by (with_reducible repeat (first | refine blk_drewN ?_ _ | refine blk_drew ?_ | refine blk_alloc ?_ _)); exact BK239.out) hb); have n5_ := Aside0.mk (blk_below (g := gb243) (o := .cells #[.int .i64 a0_0, .int .u64 0, .slice none 0 0] 27 (0, 0)) (by (with_reducible repeat (first | refine blk_drewN ?_ _ | refine blk_drew ?_ | refine blk_alloc ?_ _)); exact BK243.out) hb); have n6_ := Aside0.mk (blk_below (g := gb254) (o := .cells #[.int .i64 t244, .int .u64 t245, .slice Ao60 t246.length co60] 27 (0, 0)) (by (with_reducible repeat (first | refine blk_drewN ?_ _ | refine blk_drew ?_ | refine blk_alloc ?_ _)); exact BK254.out) hb); have n7_ := Aside0.mk (blk_below (g := gb255) (o := .cells #[.slice Ao62 t249.length co62, .int .i64 t252] 33 (0, 0)) (by (with_reducible repeat (first | refine blk_drewN ?_ _ | refine blk_drew ?_ | refine blk_alloc ?_ _)); exact BK255.out) hb); have n8_ := Aside0.mk (blk_below (g := gb266) (o := .cells #[.int .i64 0, .int .u64 0, .slice none 0 0] 27 (0, 0)) (by (with_reducible repeat (first | refine blk_drewN ?_ _ | refine blk_drew ?_ | refine blk_alloc ?_ _)); exact BK266.out) hb); have n9_ := Aside0.mk (below_step (by repeat (first | (with_reducible first | exact HB.out | apply below_alloc | apply pw_below_drewN | apply below_drew1 | refine below_set ?_ GE239.out | refine below_set ?_ GE243.out | refine below_set ?_ GE254.out | refine below_set ?_ GE255.out | refine below_set ?_ GE266.out) | exact HB.out)) hb); have n10_ := Aside0.mk (hbox); have n11_ := Aside0.mk ((by rw [hg]; exact (below_size (by repeat (first | (with_reducible first | exact HB.out | apply below_alloc | apply pw_below_drewN | apply below_drew1 | refine below_set ?_ GE239.out | refine below_set ?_ GE243.out | refine below_set ?_ GE254.out | refine below_set ?_ GE255.out | refine below_set ?_ GE266.out) | exact HB.out))) : w.heap.size ≤ gb267)); have n12_ := Aside0.mk ((by rw [hg]; exact (below_size (by repeat (first | (with_reducible first | exact HB.out | apply below_alloc | apply pw_below_drewN | apply below_drew1 | refine below_set ?_ GE239.out | refine below_set ?_ GE243.out | refine below_set ?_ GE254.out | refine below_set ?_ GE255.out | refine below_set ?_ GE266.out) | exact HB.out))) : w.heap.size ≤ gb267)); have n13_ := Aside0.mk ((by rw [hg]; exact Nat.ne_of_lt (blk_lt (g := gb239) (o := .cells #[.int .i64 a0_0, .int .u64 a0_1, .slice A0_2 l0_2.length c0_2] 27 (0, 0)) (by (with_reducible repeat (first | refine blk_drewN ?_ _ | refine blk_drew ?_ | refine blk_alloc ?_ _)); exact BK239.out)) : gb239 ≠ gb267)); have n14_ := Aside0.mk ((by rw [hg]; exact Nat.ne_of_gt (blk_lt (g := gb239) (o := .cells #[.int .i64 a0_0, .int .u64 a0_1, .slice A0_2 l0_2.length c0_2] 27 (0, 0)) (by (with_reducible repeat (first | refine blk_drewN ?_ _ | refine blk_drew ?_ | refine blk_alloc ?_ _)); exact BK239.out)) : gb267 ≠ gb239)); have n15_ := Aside0.mk ((by rw [hg]; exact Nat.ne_of_lt (blk_lt (g := gb243) (o := .cells #[.int .i64 a0_0, .int .u64 0, .slice none 0 0] 27 (0, 0)) (by (with_reducible repeat (first | refine blk_drewN ?_ _ | refine blk_drew ?_ | refine blk_alloc ?_ _)); exact BK243.out)) : gb243 ≠ gb267)); have n16_ := Aside0.mk ((by rw [hg]; exact Nat.ne_of_gt (blk_lt (g := gb243) (o := .cells #[.int .i64 a0_0, .int .u64 0, .slice none 0 0] 27 (0, 0)) (by (with_reducible repeat (first | refine blk_drewN ?_ _ | refine blk_drew ?_ | refine blk_alloc ?_ _)); exact BK243.out)) : gb267 ≠ gb243)); have n17_ := Aside0.mk ((by rw [hg]; exact Nat.ne_of_lt (blk_lt (g := gb254) (o := .cells #[.int .i64 t244, .int .u64 t245, .slice Ao60 t246.length co60] 27 (0, 0)) (by (with_reducible repeat (first | refine blk_drewN ?_ _ | refine blk_drew ?_ | refine blk_alloc ?_ _)); exact BK254.out)) : gb254 ≠ gb267)); have n18_ := Aside0.mk ((by rw [hg]; exact Nat.ne_of_gt (blk_lt (g := gb254) (o := .cells #[.int .i64 t244, .int .u64 t245, .slice Ao60 t246.length co60] 27 (0, 0)) (by (with_reducible repeat (first | refine blk_drewN ?_ _ | refine blk_drew ?_ | refine blk_alloc ?_ _)); exact BK254.out)) : gb267 ≠ gb254)); have n19_ := Aside0.mk ((by rw [hg]; exact Nat.ne_of_lt (blk_lt (g := gb255) (o := .cells #[.slice Ao62 t249.length co62, .int .i64 t252] 33 (0, 0)) (by (with_reducible repeat (first | refine blk_drewN ?_ _ | refine blk_drew ?_ | refine blk_alloc ?_ _)); exact BK255.out)) : gb255 ≠ gb267)); have n20_ := Aside0.mk ((by rw [hg]; exact Nat.ne_of_gt (blk_lt (g := gb255) (o := .cells #[.slice Ao62 t249.length co62, .int .i64 t252] 33 (0, 0)) (by (with_reducible repeat (first | refine blk_drewN ?_ _ | refine blk_drew ?_ | refine blk_alloc ?_ _)); exact BK255.out)) : gb267 ≠ gb255)); have n21_ := Aside0.mk ((by rw [hg]; exact Nat.ne_of_lt (blk_lt (g := gb266) (o := .cells #[.int .i64 0, .int .u64 0, .slice none 0 0] 27 (0, 0)) (by (with_reducible repeat (first | refine blk_drewN ?_ _ | refine blk_drew ?_ | refine blk_alloc ?_ _)); exact BK266.out)) : gb266 ≠ gb267)); have n22_ := Aside0.mk ((by rw [hg]; exact Nat.ne_of_gt (blk_lt (g := gb266) (o := .cells #[.int .i64 0, .int .u64 0, .slice none 0 0] 27 (0, 0)) (by (with_reducible repeat (first | refine blk_drewN ?_ _ | refine blk_drew ?_ | refine blk_alloc ?_ _)); exact BK266.out)) : gb267 ≠ gb266)); clear HO248; clear HO251; clear HO260; clear HO263; clear BK239; clear BK243; clear BK254; clear BK255; clear BK266; clear HB; have HO248 := n0_; have HO251 := n1_; have HO260 := n2_; have HO263 := n3_; have BK239 := n4_; have BK243 := n5_; have BK254 := n6_; have BK255 := n7_; have BK266 := n8_; have HB := n9_; have BK267 := n10_; have GW267 := n11_; have GE267 := n12_; have NB239_267 := n13_; have NB267_239 := n14_; have NB243_267 := n15_; have NB267_243 := n16_; have NB254_267 := n17_; have NB267_254 := n18_; have NB255_267 := n19_; have NB267_255 := n20_; have NB266_267 := n21_; have NB267_266 := n22_; clear n0_ n1_ n2_ n3_ n4_ n5_ n6_ n7_ n8_ n9_ n10_ n11_ n12_ n13_ n14_ n15_ n16_ n17_ n18_ n19_ n20_ n21_ n22_; clear hb hbox hg; have hnb72 := NB266_239.out; have hnc72 := NB239_266.out; have hnb73 := NB266_243.out; have hnc73 := NB243_266.out; have hnb74 := NB266_254.out; have hnc74 := NB254_266.out; have hnb75 := NB266_255.out; have hnc75 := NB255_266.out; have hnb76 := NB266_267.out; have hnc76 := NB267_266.out; have hcz77_0 : w71.cell? ⟨gb266, 0, none⟩ = some (.int .i64 0) := (blk_cell BK266.out 0).trans rfl; have hcz77_1 : w71.cell? ⟨gb266, 1, none⟩ = some (.int .u64 0) := (blk_cell BK266.out 1).trans rfl; have hcz77_2 : w71.cell? ⟨gb266, 2, none⟩ = some (.slice none 0 0) := (blk_cell BK266.out 2).trans rfl; have hfz77_0 := blk_frozen BK266.out 0; have hfz77_1 := blk_frozen BK266.out 1; have hfz77_2 := blk_frozen BK266.out 2; obtain ⟨Ao78, co78, eo78⟩ := Kd.V_slice HO260.out; subst eo78) | ((with_reducible refine gate_store (t := 27) (p := 11) rfl ?_); refine store_event (t := 27) (p := 11) (v := ?vo_w79) (w1 := (((w71.setCell ⟨gb266, 0, none⟩ (.int .i64 t256)).setCell ⟨gb266, 1, none⟩ (.int .u64 t257)).setCell ⟨gb266, 2, none⟩ (.slice Ao78 t258.length co78))) ?hg ?ho ?hn ?hr ?_; (case ho => rfl); (case hg => rfl); (case hn => rfl); (case hr => first | (go_simp; done) | (go_simp; rfl)); intro w79 hw; have n0_ : Aside0 (Kd.V Kd.string 9 w79 w.heap.size (fun k_ => k_ ≠ gb239 ∧ k_ ≠ gb243 ∧ k_ ≠ gb254 ∧ k_ ≠ gb255 ∧ k_ ≠ gb266 ∧ k_ ≠ gb267) (.slice Ao60 t246.length co60) t246) := ⟨(by rw [hw]; exact (by (with_reducible repeat (first | apply Kd.V_alloc | apply Kd.V_drewN | apply Kd.V_drew)); exact Kd.V_mono (Kd.V_far (p := ⟨gb266, 2, none⟩) (Kd.V_far (p := ⟨gb266, 1, none⟩) (Kd.V_far (p := ⟨gb266, 0, none⟩) (Kd.V_mono HO248.out (fun k_ hk => (⟨hk, hk.1.2⟩ : _ ∧ k_ ≠ gb266))) (fun _ hk => hk.2) (.int .i64 t256)) (fun _ hk => hk.2) (.int .u64 t257)) (fun _ hk => hk.2) (.slice Ao78 t258.length co78)) (fun _ hk => ⟨hk.1.1.1.1, ⟨hk.1.1.1.2.1, ⟨hk.1.1.1.2.2.1, ⟨hk.1.1.1.2.2.2, ⟨hk.1.1.2, hk.1.2⟩⟩⟩⟩⟩)))⟩; have n1_ : Aside0 (Kd.V (Kd.int .u64) 24 w79 w.heap.size (fun k_ => k_ ≠ gb239 ∧ k_ ≠ gb243 ∧ k_ ≠ gb254 ∧ k_ ≠ gb255 ∧ k_ ≠ gb266 ∧ k_ ≠ gb267) (.slice Ao62 t249.length co62) t249) := ⟨(by rw [hw]; exact (by (with_reducible repeat (first | apply Kd.V_alloc | apply Kd.V_drewN | apply Kd.V_drew)); exact Kd.V_mono (Kd.V_far (p := ⟨gb266, 2, none⟩) (Kd.V_far (p := ⟨gb266, 1, none⟩) (Kd.V_far (p := ⟨gb266, 0, none⟩) (Kd.V_mono HO251.out (fun k_ hk => (⟨hk, hk.1.2⟩ : _ ∧ k_ ≠ gb266))) (fun _ hk => hk.2) (.int .i64 t256)) (fun _ hk => hk.2) (.int .u64 t257)) (fun _ hk => hk.2) (.slice Ao78 t258.length co78)) (fun _ hk => ⟨hk.1.1.1.1, ⟨hk.1.1.1.2.1, ⟨hk.1.1.1.2.2.1, ⟨hk.1.1.1.2.2.2, ⟨hk.1.1.2, hk.1.2⟩⟩⟩⟩⟩)))⟩; have n2_ : Aside0 (Kd.V Kd.string 9 w79 w.heap.size (fun k_ => k_ ≠ gb239 ∧ k_ ≠ gb243 ∧ k_ ≠ gb254 ∧ k_ ≠ gb255 ∧ k_ ≠ gb266 ∧ k_ ≠ gb267) (.slice Ao78 t258.length co78) t258) := ⟨(by rw [hw]; exact (by (with_reducible repeat (first | apply Kd.V_alloc | apply Kd.V_drewN | apply Kd.V_drew)); exact Kd.V_mono (Kd.V_far (p := ⟨gb266, 2, none⟩) (Kd.V_far (p := ⟨gb266, 1, none⟩) (Kd.V_far (p := ⟨gb266, 0, none⟩) (Kd.V_mono HO260.out (fun k_ hk => (⟨hk, hk.1.2⟩ : _ ∧ k_ ≠ gb266))) (fun _ hk => hk.2) (.int .i64 t256)) (fun _ hk => hk.2) (.int .u64 t257)) (fun _ hk => hk.2) (.slice Ao78 t258.length co78)) (fun _ hk => ⟨hk.1.1.1.1, ⟨hk.1.1.1.2.1, ⟨hk.1.1.1.2.2.1, ⟨hk.1.1.1.2.2.2, ⟨hk.1.1.2, hk.1.2⟩⟩⟩⟩⟩)))⟩; have n3_ : Aside0 (Kd.V (Kd.int .u64) 24 w79 w.heap.size (fun k_ => k_ ≠ gb239 ∧ k_ ≠ gb243 ∧ k_ ≠ gb254 ∧ k_ ≠ gb255 ∧ k_ ≠ gb266 ∧ k_ ≠ gb267) v262 t261) := ⟨(by rw [hw]; exact (by (with_reducible repeat (first | apply Kd.V_alloc | apply Kd.V_drewN | apply Kd.V_drew)); exact Kd.V_mono (Kd.V_far (p := ⟨gb266, 2, none⟩) (Kd.V_far (p := ⟨gb266, 1, none⟩) (Kd.V_far (p := ⟨gb266, 0, none⟩) (Kd.V_mono HO263.out (fun k_ hk => (⟨hk, hk.1.2⟩ : _ ∧ k_ ≠ gb266))) (fun _ hk => hk.2) (.int .i64 t256)) (fun _ hk => hk.2) (.int .u64 t257)) (fun _ hk => hk.2) (.slice Ao78 t258.length co78)) (fun _ hk => ⟨hk.1.1.1.1, ⟨hk.1.1.1.2.1, ⟨hk.1.1.1.2.2.1, ⟨hk.1.1.1.2.2.2, ⟨hk.1.1.2, hk.1.2⟩⟩⟩⟩⟩)))⟩; have n4_ : Aside0 (w79.heap[gb239]? = some (.cells #[.int .i64 a0_0, .int .u64 a0_1, .slice A0_2 l0_2.length c0_2] 27 (0, 0))) := ⟨(by rw [hw]; exact (by (with_reducible repeat (first | refine blk_drewN ?_ _ | refine blk_drew ?_ | refine blk_alloc ?_ _)); refine blk_far ?_ NB239_266.out _; (with_reducible repeat (first | refine blk_drewN ?_ _ | refine blk_drew ?_ | refine blk_alloc ?_ _)); refine blk_far ?_ NB239_266.out _; (with_reducible repeat (first | refine blk_drewN ?_ _ | refine blk_drew ?_ | refine blk_alloc ?_ _)); refine blk_far ?_ NB239_266.out _; (with_reducible repeat (first | refine blk_drewN ?_ _ | refine blk_drew ?_ | refine blk_alloc ?_ _)); exact BK239.out))⟩; have n5_ : Aside0 (w79.heap[gb243]? = some (.cells #[.int .i64 a0_0, .int .u64 0, .slice none 0 0] 27 (0, 0))) := ⟨(by rw [hw]; exact (by (with_reducible repeat (first | refine blk_drewN ?_ _ | refine blk_drew ?_ | refine blk_alloc ?_ _)); refine blk_far ?_ NB243_266.out _; (with_reducible repeat (first | refine blk_drewN ?_ _ | refine blk_drew ?_ | refine blk_alloc ?_ _)); refine blk_far ?_ NB243_266.out _; (with_reducible repeat (first | refine blk_drewN ?_ _ | refine blk_drew ?_ | refine blk_alloc ?_ _)); refine blk_far ?_ NB243_266.out _; (with_reducible repeat (first | refine blk_drewN ?_ _ | refine blk_drew ?_ | refine blk_alloc ?_ _)); exact BK243.out))⟩; have n6_ : Aside0 (w79.heap[gb254]? = some (.cells #[.int .i64 t244, .int .u64 t245, .slice Ao60 t246.length co60] 27 (0, 0))) := ⟨(by rw [hw]; exact (by (with_reducible repeat (first | refine blk_drewN ?_ _ | refine blk_drew ?_ | refine blk_alloc ?_ _)); refine blk_far ?_ NB254_266.out _; (with_reducible repeat (first | refine blk_drewN ?_ _ | refine blk_drew ?_ | refine blk_alloc ?_ _)); refine blk_far ?_ NB254_266.out _; (with_reducible repeat (first | refine blk_drewN ?_ _ | refine blk_drew ?_ | refine blk_alloc ?_ _)); refine blk_far ?_ NB254_266.out _; (with_reducible repeat (first | refine blk_drewN ?_ _ | refine blk_drew ?_ | refine blk_alloc ?_ _)); exact BK254.out))⟩; have n7_ : Aside0 (w79.heap[gb255]? = some (.cells #[.slice Ao62 t249.length co62, .int .i64 t252] 33 (0, 0))) := ⟨(by rw [hw]; exact (by (with_reducible repeat (first | refine blk_drewN ?_ _ | refine blk_drew ?_ | refine blk_alloc ?_ _)); refine blk_far ?_ NB255_266.out _; (with_reducible repeat (first | refine blk_drewN ?_ _ | refine blk_drew ?_ | refine blk_alloc ?_ _)); refine blk_far ?_ NB255_266.out _; (with_reducible repeat (first | refine blk_drewN ?_ _ | refine blk_drew ?_ | refine blk_alloc ?_ _)); refine blk_far ?_ NB255_266.out _; (with_reducible repeat (first | refine blk_drewN ?_ _ | refine blk_drew ?_ | refine blk_alloc ?_ _)); exact BK255.out))⟩; have n8_ : Aside0 (w79.heap[gb266]? = some (.cells #[.int .i64 t256, .int .u64 t257, .slice Ao78 t258.length co78] 27 (0, 0))) := ⟨(by rw [hw]; exact (by (with_reducible repeat (first | refine blk_drewN ?_ _ | refine blk_drew ?_ | refine blk_alloc ?_ _)); refine blk_put (cs := #[.int .i64 t256, .int .u64 t257, .slice none 0 0]) ?_ 2 _ rfl; (with_reducible repeat (first | refine blk_drewN ?_ _ | refine blk_drew ?_ | refine blk_alloc ?_ _)); refine blk_put (cs := #[.int .i64 t256, .int .u64 0, .slice none 0 0]) ?_ 1 _ rfl; (with_reducible repeat (first | refine blk_drewN ?_ _ | refine blk_drew ?_ | refine blk_alloc ?_ _)); refine blk_put (cs := #[.int .i64 0, .int .u64 0, .slice none 0 0]) ?_ 0 _ rfl; (with_reducible repeat (first | refine blk_drewN ?_ _ | refine blk_drew ?_ | refine blk_alloc ?_ _)); exact BK266.out))⟩; have n9_ : Aside0 (w79.heap[gb267]? = some (.cells #[.slice none 0 0, .int .i64 0] 33 (0, 0))) := ⟨(by rw [hw]; exact (by (with_reducible repeat (first | refine blk_drewN ?_ _ | refine blk_drew ?_ | refine blk_alloc ?_ _)); refine blk_far ?_ NB267_266.out _; (with_reducible repeat (first | refine blk_drewN ?_ _ | refine blk_drew ?_ | refine blk_alloc ?_ _)); refine blk_far ?_ NB267_266.out _; (with_reducible repeat (first | refine blk_drewN ?_ _ | refine blk_drew ?_ | refine blk_alloc ?_ _)); refine blk_far ?_ NB267_266.out _; (with_reducible repeat (first | refine blk_drewN ?_ _ | refine blk_drew ?_ | refine blk_alloc ?_ _)); exact BK267.out))⟩; have n10_ : Aside0 (Below w.heap.size w w79) := ⟨(by rw [hw]; exact (by repeat (first | (with_reducible first | exact HB.out | apply below_alloc | apply pw_below_drewN | apply below_drew1 | refine below_set ?_ GE239.out | refine below_set ?_ GE243.out | refine below_set ?_ GE254.out | refine below_set ?_ GE255.out | refine below_set ?_ GE266.out | refine below_set ?_ GE267.out) | exact HB.out)))⟩; clear hw; clear HO248; clear HO251; clear HO260; clear HO263; clear BK239; clear BK243; clear BK254; clear BK255; clear BK266; clear BK267; clear HB; have HO248 := n0_; have HO251 := n1_; have HO260 := n2_; have HO263 := n3_; have BK239 := n4_; have BK243 := n5_; have BK254 := n6_; have BK255 := n7_; have BK266 := n8_; have BK267 := n9_; have HB := n10_; clear n0_ n1_ n2_ n3_ n4_ n5_ n6_ n7_ n8_ n9_ n10_; obtain ⟨Ao80, co80, eo80⟩ := Kd.V_slice HO263.out; subst eo80; have hnb81 := NB267_239.out; have hnc81 := NB239_267.out; have hnb82 := NB267_243.out; have hnc82 := NB243_267.out; have hnb83 := NB267_254.out; have hnc83 := NB254_267.out; have hnb84 := NB267_255.out; have hnc84 := NB255_267.out; have hcz85_0 : w79.cell? ⟨gb267, 0, none⟩ = some (.slice none 0 0) := (blk_cell BK267.out 0).trans rfl; have hcz85_1 : w79.cell? ⟨gb267, 1, none⟩ = some (.int .i64 0) := (blk_cell BK267.out 1).trans rfl; have hfz85_0 := blk_frozen BK267.out 0; have hfz85_1 := blk_frozen BK267.out 1) | ((with_reducible refine gate_store (t := 33) (p := 12) rfl ?_); refine store_event (t := 33) (p := 12) (v := ?vo_w86) (w1 := ((w79.setCell ⟨gb267, 0, none⟩ (.slice Ao80 t261.length co80)).setCell ⟨gb267, 1, none⟩ (.int .i64 t264))) ?hg ?ho ?hn ?hr ?_; (case ho => rfl); (case hg => rfl); (case hn => rfl); (case hr => first | (go_simp; done) | (go_simp; rfl)); intro w86 hw; have n0_ : Aside0 (Kd.V Kd.string 9 w86 w.heap.size (fun k_ => k_ ≠ gb239 ∧ k_ ≠ gb243 ∧ k_ ≠ gb254 ∧ k_ ≠ gb255 ∧ k_ ≠ gb266 ∧ k_ ≠ gb267) (.slice Ao60 t246.length co60) t246) := ⟨(by rw [hw]; exact (by (with_reducible repeat (first | apply Kd.V_alloc | apply Kd.V_drewN | apply Kd.V_drew)); exact Kd.V_mono (Kd.V_far (p := ⟨gb267, 1, none⟩) (Kd.V_far (p := ⟨gb267, 0, none⟩) (Kd.V_mono HO248.out (fun k_ hk => (⟨hk, hk.2.2.2.2.2⟩ : _ ∧ k_ ≠ gb267))) (fun _ hk => hk.2) (.slice Ao80 t261.length co80)) (fun _ hk => hk.2) (.int .i64 t264)) (fun _ hk => ⟨hk.1.1, ⟨hk.1.2.1, ⟨hk.1.2.2.1, ⟨hk.1.2.2.2.1, ⟨hk.1.2.2.2.2.1, hk.1.2.2.2.2.2⟩⟩⟩⟩⟩)))⟩; have n1_ : Aside0 (Kd.V (Kd.int .u64) 24 w86 w.heap.size (fun k_ => k_ ≠ gb239 ∧ k_ ≠ gb243 ∧ k_ ≠ gb254 ∧ k_ ≠ gb255 ∧ k_ ≠ gb266 ∧ k_ ≠ gb267) (.slice Ao62 t249.length co62) t249) := ⟨(by rw [hw]; exact (by (with_reducible repeat (first | apply Kd.V_alloc | apply Kd.V_drewN | apply Kd.V_drew)); exact Kd.V_mono (Kd.V_far (p := ⟨gb267, 1, none⟩) (Kd.V_far (p := ⟨gb267, 0, none⟩) (Kd.V_mono HO251.out (fun k_ hk => (⟨hk, hk.2.2.2.2.2⟩ : _ ∧ k_ ≠ gb267))) (fun _ hk => hk.2) (.slice Ao80 t261.length co80)) (fun _ hk => hk.2) (.int .i64 t264)) (fun _ hk => ⟨hk.1.1, ⟨hk.1.2.1, ⟨hk.1.2.2.1, ⟨hk.1.2.2.2.1, ⟨hk.1.2.2.2.2.1, hk.1.2.2.2.2.2⟩⟩⟩⟩⟩)))⟩; have n2_ : Aside0 (Kd.V Kd.string 9 w86 w.heap.size (fun k_ => k_ ≠ gb239 ∧ k_ ≠ gb243 ∧ k_ ≠ gb254 ∧ k_ ≠ gb255 ∧ k_ ≠ gb266 ∧ k_ ≠ gb267) (.slice Ao78 t258.length co78) t258) := ⟨(by rw [hw]; exact (by (with_reducible repeat (first | apply Kd.V_alloc | apply Kd.V_drewN | apply Kd.V_drew)); exact Kd.V_mono (Kd.V_far (p := ⟨gb267, 1, none⟩) (Kd.V_far (p := ⟨gb267, 0, none⟩) (Kd.V_mono HO260.out (fun k_ hk => (⟨hk, hk.2.2.2.2.2⟩ : _ ∧ k_ ≠ gb267))) (fun _ hk => hk.2) (.slice Ao80 t261.length co80)) (fun _ hk => hk.2) (.int .i64 t264)) (fun _ hk => ⟨hk.1.1, ⟨hk.1.2.1, ⟨hk.1.2.2.1, ⟨hk.1.2.2.2.1, ⟨hk.1.2.2.2.2.1, hk.1.2.2.2.2.2⟩⟩⟩⟩⟩)))⟩; have n3_ : Aside0 (Kd.V (Kd.int .u64) 24 w86 w.heap.size (fun k_ => k_ ≠ gb239 ∧ k_ ≠ gb243 ∧ k_ ≠ gb254 ∧ k_ ≠ gb255 ∧ k_ ≠ gb266 ∧ k_ ≠ gb267) (.slice Ao80 t261.length co80) t261) := ⟨(by rw [hw]; exact (by (with_reducible repeat (first | apply Kd.V_alloc | apply Kd.V_drewN | apply Kd.V_drew)); exact Kd.V_mono (Kd.V_far (p := ⟨gb267, 1, none⟩) (Kd.V_far (p := ⟨gb267, 0, none⟩) (Kd.V_mono HO263.out (fun k_ hk => (⟨hk, hk.2.2.2.2.2⟩ : _ ∧ k_ ≠ gb267))) (fun _ hk => hk.2) (.slice Ao80 t261.length co80)) (fun _ hk => hk.2) (.int .i64 t264)) (fun _ hk => ⟨hk.1.1, ⟨hk.1.2.1, ⟨hk.1.2.2.1, ⟨hk.1.2.2.2.1, ⟨hk.1.2.2.2.2.1, hk.1.2.2.2.2.2⟩⟩⟩⟩⟩)))⟩; have n4_ : Aside0 (w86.heap[gb239]? = some (.cells #[.int .i64 a0_0, .int .u64 a0_1, .slice A0_2 l0_2.length c0_2] 27 (0, 0))) := ⟨(by rw [hw]; exact (by (with_reducible repeat (first | refine blk_drewN ?_ _ | refine blk_drew ?_ | refine blk_alloc ?_ _)); refine blk_far ?_ NB239_267.out _; (with_reducible repeat (first | refine blk_drewN ?_ _ | refine blk_drew ?_ | refine blk_alloc ?_ _)); refine blk_far ?_ NB239_267.out _; (with_reducible repeat (first | refine blk_drewN ?_ _ | refine blk_drew ?_ | refine blk_alloc ?_ _)); exact BK239.out))⟩; have n5_ : Aside0 (w86.heap[gb243]? = some (.cells #[.int .i64 a0_0, .int .u64 0, .slice none 0 0] 27 (0, 0))) := ⟨(by rw [hw]; exact (by (with_reducible repeat (first | refine blk_drewN ?_ _ | refine blk_drew ?_ | refine blk_alloc ?_ _)); refine blk_far ?_ NB243_267.out _; (with_reducible repeat (first | refine blk_drewN ?_ _ | refine blk_drew ?_ | refine blk_alloc ?_ _)); refine blk_far ?_ NB243_267.out _; (with_reducible repeat (first | refine blk_drewN ?_ _ | refine blk_drew ?_ | refine blk_alloc ?_ _)); exact BK243.out))⟩; have n6_ : Aside0 (w86.heap[gb254]? = some (.cells #[.int .i64 t244, .int .u64 t245, .slice Ao60 t246.length co60] 27 (0, 0))) := ⟨(by rw [hw]; exact (by (with_reducible repeat (first | refine blk_drewN ?_ _ | refine blk_drew ?_ | refine blk_alloc ?_ _)); refine blk_far ?_ NB254_267.out _; (with_reducible repeat (first | refine blk_drewN ?_ _ | refine blk_drew ?_ | refine blk_alloc ?_ _)); refine blk_far ?_ NB254_267.out _; (with_reducible repeat (first | refine blk_drewN ?_ _ | refine blk_drew ?_ | refine blk_alloc ?_ _)); exact BK254.out))⟩; have n7_ : Aside0 (w86.heap[gb255]? = some (.cells #[.slice Ao62 t249.length co62, .int .i64 t252] 33 (0, 0))) := ⟨(by rw [hw]; exact (by (with_reducible repeat (first | refine blk_drewN ?_ _ | refine blk_drew ?_ | refine blk_alloc ?_ _)); refine blk_far ?_ NB255_267.out _; (with_reducible repeat (first | refine blk_drewN ?_ _ | refine blk_drew ?_ | refine blk_alloc ?_ _)); refine blk_far ?_ NB255_267.out _; (with_reducible repeat (first | refine blk_drewN ?_ _ | refine blk_drew ?_ | refine blk_alloc ?_ _)); exact BK255.out))⟩; have n8_ : Aside0 (w86.heap[gb266]? = some (.cells #[.int .i64 t256, .int .u64 t257, .slice Ao78 t258.length co78] 27 (0, 0))) := ⟨(by rw [hw]; exact (by (with_reducible repeat (first | refine blk_drewN ?_ _ | refine blk_drew ?_ | refine blk_alloc ?_ _)); refine blk_far ?_ NB266_267.out _; (with_reducible repeat (first | refine blk_drewN ?_ _ | refine blk_drew ?_ | refine blk_alloc ?_ _)); refine blk_far ?_ NB266_267.out _; (with_reducible repeat (first | refine blk_drewN ?_ _ | refine blk_drew ?_ | refine blk_alloc ?_ _)); exact BK266.out))⟩; have n9_ : Aside0 (w86.heap[gb267]? = some (.cells #[.slice Ao80 t261.length co80, .int .i64 t264] 33 (0, 0))) := ⟨(by rw [hw]; exact (by (with_reducible repeat (first | refine blk_drewN ?_ _ | refine blk_drew ?_ | refine blk_alloc ?_ _)); refine blk_put (cs := #[.slice Ao80 t261.length co80, .int .i64 0]) ?_ 1 _ rfl; (with_reducible repeat (first | refine blk_drewN ?_ _ | refine blk_drew ?_ | refine blk_alloc ?_ _)); refine blk_put (cs := #[.slice none 0 0, .int .i64 0]) ?_ 0 _ rfl; (with_reducible repeat (first | refine blk_drewN ?_ _ | refine blk_drew ?_ | refine blk_alloc ?_ _)); exact BK267.out))⟩; have n10_ : Aside0 (Below w.heap.size w w86) := ⟨(by rw [hw]; exact (by repeat (first | (with_reducible first | exact HB.out | apply below_alloc | apply pw_below_drewN | apply below_drew1 | refine below_set ?_ GE239.out | refine below_set ?_ GE243.out | refine below_set ?_ GE254.out | refine below_set ?_ GE255.out | refine below_set ?_ GE266.out | refine below_set ?_ GE267.out) | exact HB.out)))⟩; clear hw; clear HO248; clear HO251; clear HO260; clear HO263; clear BK239; clear BK243; clear BK254; clear BK255; clear BK266; clear BK267; clear HB; have HO248 := n0_; have HO251 := n1_; have HO260 := n2_; have HO263 := n3_; have BK239 := n4_; have BK243 := n5_; have BK254 := n6_; have BK255 := n7_; have BK266 := n8_; have BK267 := n9_; have HB := n10_; clear n0_ n1_ n2_ n3_ n4_ n5_ n6_ n7_ n8_ n9_ n10_; have hcz87_0 : w86.cell? ⟨gb243, 0, none⟩ = some (.int .i64 a0_0) := (blk_cell BK243.out 0).trans rfl; have hcz87_1 : w86.cell? ⟨gb243, 1, none⟩ = some (.int .u64 0) := (blk_cell BK243.out 1).trans rfl; have hcz87_2 : w86.cell? ⟨gb243, 2, none⟩ = some (.slice none 0 0) := (blk_cell BK243.out 2).trans rfl; have hfz87_0 := blk_frozen BK243.out 0; have hfz87_1 := blk_frozen BK243.out 1; have hfz87_2 := blk_frozen BK243.out 2; have hcz88_0 : w86.cell? ⟨gb239, 0, none⟩ = some (.int .i64 a0_0) := (blk_cell BK239.out 0).trans rfl; have hcz88_1 : w86.cell? ⟨gb239, 1, none⟩ = some (.int .u64 a0_1) := (blk_cell BK239.out 1).trans rfl; have hcz88_2 : w86.cell? ⟨gb239, 2, none⟩ = some (.slice A0_2 l0_2.length c0_2) := (blk_cell BK239.out 2).trans rfl; have hfz88_0 := blk_frozen BK239.out 0; have hfz88_1 := blk_frozen BK239.out 1; have hfz88_2 := blk_frozen BK239.out 2) | ((with_reducible refine gate_callee (f := 18) rfl ?_); refine goesL_ (some 65) rfl rfl Try.func18 (by kernel_rfl) rfl #[.agg #[.int .i64 a0_0, .int .u64 0, .slice none 0 0], .agg #[.int .i64 a0_0, .int .u64 a0_1, .slice A0_2 l0_2.length c0_2], .agg #[.slice none 0 0, .int .i64 0]] rfl (by (try simp only [List.map_toArray, List.map_cons, List.map_nil]); first | done | rfl | (simp only [List.length_drop, List.length_take]; rfl)) ?_; (refine (slots_Merge.calls kj3 a0_0 0 (fun k_ => False) _ _ ([] : List ByteArray) a0_0 a0_1 (fun k_ => k_ < w.heap.size) _ _ l0_2 (fun k_ => False) _ _ ([] : List Int) 0 t268 t269 t270 t273 t276 t277 _ ?side1 ?side2 ?side3 A29.out).mono ?_); (case side1 => exact Kd.V_nil _ _ _ _ _); (case side2 => exact Kd.V_mk HC0_2.out (Kd.F_below (Kd.C_F Kd.heap_string HR0_2.out) (by repeat (first | (with_reducible first | exact HB.out | apply below_alloc | apply pw_below_drewN | apply below_drew1 | refine below_set ?_ GE239.out | refine below_set ?_ GE243.out | refine below_set ?_ GE254.out | refine below_set ?_ GE255.out | refine below_set ?_ GE266.out | refine below_set ?_ GE267.out) | exact HB.out)))); (case side3 => exact Kd.V_nil _ _ _ _ _); rintro e w89 ⟨v271, v274, rfl, ho0, ho1, hb⟩; refine ⟨_, rfl, ?_⟩; have n0_ := Aside0.mk (Kd.V_below (by (with_reducible repeat (first | apply Kd.V_alloc | apply Kd.V_drewN | apply Kd.V_drew)); exact HO248.out) hb); have n1_ := Aside0.mk (Kd.V_below (by (with_reducible repeat (first | apply Kd.V_alloc | apply Kd.V_drewN | apply Kd.V_drew)); exact HO251.out) hb); have n2_ := Aside0.mk (Kd.V_below (by (with_reducible repeat (first | apply Kd.V_alloc | apply Kd.V_drewN | apply Kd.V_drew)); exact HO260.out) hb); have n3_ := Aside0.mk (Kd.V_below (by (with_reducible repeat (first | apply Kd.V_alloc | apply Kd.V_drewN | apply Kd.V_drew)); exact HO263.out) hb); have n4_ := Aside0.mk (Kd.V_lower (Kd.V_mono (ok' := fun k_ => k_ ≠ gb239 ∧ k_ ≠ gb243 ∧ k_ ≠ gb254 ∧ k_ ≠ gb255 ∧ k_ ≠ gb266 ∧ k_ ≠ gb267) ho0 (fun k_ hk_ => ⟨Or.elim hk_ (fun hs_ => Or.elim hs_ (fun hs_ => (hs_).elim) (fun hs_ => Or.elim hs_ (fun hs_ => fun e_ => Nat.not_le.2 hs_ (by rw [e_]; exact GW239.out)) (fun hs_ => (hs_).elim))) (fun hn_ => (Kd.freshB (g := gb239) (o := .cells #[.int .i64 a0_0, .int .u64 a0_1, .slice A0_2 l0_2.length c0_2] 27 (0, 0)) (by (with_reducible repeat (first | refine blk_drewN ?_ _ | refine blk_drew ?_ | refine blk_alloc ?_ _)); exact BK239.out) k_ hn_)), Or.elim hk_ (fun hs_ => Or.elim hs_ (fun hs_ => (hs_).elim) (fun hs_ => Or.elim hs_ (fun hs_ => fun e_ => Nat.not_le.2 hs_ (by rw [e_]; exact GW243.out)) (fun hs_ => (hs_).elim))) (fun hn_ => (Kd.freshB (g := gb243) (o := .cells #[.int .i64 a0_0, .int .u64 0, .slice none 0 0] 27 (0, 0)) (by (with_reducible repeat (first | refine blk_drewN ?_ _ | refine blk_drew ?_ | refine blk_alloc ?_ _)); exact BK243.out) k_ hn_)), Or.elim hk_ (fun hs_ => Or.elim hs_ (fun hs_ => (hs_).elim) (fun hs_ => Or.elim hs_ (fun hs_ => fun e_ => Nat.not_le.2 hs_ (by rw [e_]; exact GW254.out)) (fun hs_ => (hs_).elim))) (fun hn_ => (Kd.freshB (g := gb254) (o := .cells #[.int .i64 t244, .int .u64 t245, .slice Ao60 t246.length co60] 27 (0, 0)) (by (with_reducible repeat (first | refine blk_drewN ?_ _ | refine blk_drew ?_ | refine blk_alloc ?_ _)); exact BK254.out) k_ hn_)), Or.elim hk_ (fun hs_ => Or.elim hs_ (fun hs_ => (hs_).elim) (fun hs_ => Or.elim hs_ (fun hs_ => fun e_ => Nat.not_le.2 hs_ (by rw [e_]; exact GW255.out)) (fun hs_ => (hs_).elim))) (fun hn_ => (Kd.freshB (g := gb255) (o := .cells #[.slice Ao62 t249.length co62, .int .i64 t252] 33 (0, 0)) (by (with_reducible repeat (first | refine blk_drewN ?_ _ | refine blk_drew ?_ | refine blk_alloc ?_ _)); exact BK255.out) k_ hn_)), Or.elim hk_ (fun hs_ => Or.elim hs_ (fun hs_ => (hs_).elim) (fun hs_ => Or.elim hs_ (fun hs_ => fun e_ => Nat.not_le.2 hs_ (by rw [e_]; exact GW266.out)) (fun hs_ => (hs_).elim))) (fun hn_ => (Kd.freshB (g := gb266) (o := .cells #[.int .i64 t256, .int .u64 t257, .slice Ao78 t258.length co78] 27 (0, 0)) (by (with_reducible repeat (first | refine blk_drewN ?_ _ | refine blk_drew ?_ | refine blk_alloc ?_ _)); exact BK266.out) k_ hn_)), Or.elim hk_ (fun hs_ => Or.elim hs_ (fun hs_ => (hs_).elim) (fun hs_ => Or.elim hs_ (fun hs_ => fun e_ => Nat.not_le.2 hs_ (by rw [e_]; exact GW267.out)) (fun hs_ => (hs_).elim))) (fun hn_ => (Kd.freshB (g := gb267) (o := .cells #[.slice Ao80 t261.length co80, .int .i64 t264] 33 (0, 0)) (by (with_reducible repeat (first | refine blk_drewN ?_ _ | refine blk_drew ?_ | refine blk_alloc ?_ _)); exact BK267.out) k_ hn_))⟩)) (below_size (by repeat (first | (with_reducible first | exact HB.out | apply below_alloc | apply pw_below_drewN | apply below_drew1 | refine below_set ?_ GE239.out | refine below_set ?_ GE243.out | refine below_set ?_ GE254.out | refine below_set ?_ GE255.out | refine below_set ?_ GE266.out | refine below_set ?_ GE267.out) | exact HB.out)))); have n5_ := Aside0.mk (Kd.V_lower (Kd.V_mono (ok' := fun k_ => k_ ≠ gb239 ∧ k_ ≠ gb243 ∧ k_ ≠ gb254 ∧ k_ ≠ gb255 ∧ k_ ≠ gb266 ∧ k_ ≠ gb267) ho1 (fun k_ hk_ => ⟨Or.elim hk_ (fun hs_ => Or.elim hs_ (fun hs_ => (hs_).elim) (fun hs_ => Or.elim hs_ (fun hs_ => fun e_ => Nat.not_le.2 hs_ (by rw [e_]; exact GW239.out)) (fun hs_ => (hs_).elim))) (fun hn_ => (Kd.freshB (g := gb239) (o := .cells #[.int .i64 a0_0, .int .u64 a0_1, .slice A0_2 l0_2.length c0_2] 27 (0, 0)) (by (with_reducible repeat (first | refine blk_drewN ?_ _ | refine blk_drew ?_ | refine blk_alloc ?_ _)); exact BK239.out) k_ hn_)), Or.elim hk_ (fun hs_ => Or.elim hs_ (fun hs_ => (hs_).elim) (fun hs_ => Or.elim hs_ (fun hs_ => fun e_ => Nat.not_le.2 hs_ (by rw [e_]; exact GW243.out)) (fun hs_ => (hs_).elim))) (fun hn_ => (Kd.freshB (g := gb243) (o := .cells #[.int .i64 a0_0, .int .u64 0, .slice none 0 0] 27 (0, 0)) (by (with_reducible repeat (first | refine blk_drewN ?_ _ | refine blk_drew ?_ | refine blk_alloc ?_ _)); exact BK243.out) k_ hn_)), Or.elim hk_ (fun hs_ => Or.elim hs_ (fun hs_ => (hs_).elim) (fun hs_ => Or.elim hs_ (fun hs_ => fun e_ => Nat.not_le.2 hs_ (by rw [e_]; exact GW254.out)) (fun hs_ => (hs_).elim))) (fun hn_ => (Kd.freshB (g := gb254) (o := .cells #[.int .i64 t244, .int .u64 t245, .slice Ao60 t246.length co60] 27 (0, 0)) (by (with_reducible repeat (first | refine blk_drewN ?_ _ | refine blk_drew ?_ | refine blk_alloc ?_ _)); exact BK254.out) k_ hn_)), Or.elim hk_ (fun hs_ => Or.elim hs_ (fun hs_ => (hs_).elim) (fun hs_ => Or.elim hs_ (fun hs_ => fun e_ => Nat.not_le.2 hs_ (by rw [e_]; exact GW255.out)) (fun hs_ => (hs_).elim))) (fun hn_ => (Kd.freshB (g := gb255) (o := .cells #[.slice Ao62 t249.length co62, .int .i64 t252] 33 (0, 0)) (by (with_reducible repeat (first | refine blk_drewN ?_ _ | refine blk_drew ?_ | refine blk_alloc ?_ _)); exact BK255.out) k_ hn_)), Or.elim hk_ (fun hs_ => Or.elim hs_ (fun hs_ => (hs_).elim) (fun hs_ => Or.elim hs_ (fun hs_ => fun e_ => Nat.not_le.2 hs_ (by rw [e_]; exact GW266.out)) (fun hs_ => (hs_).elim))) (fun hn_ => (Kd.freshB (g := gb266) (o := .cells #[.int .i64 t256, .int .u64 t257, .slice Ao78 t258.length co78] 27 (0, 0)) (by (with_reducible repeat (first | refine blk_drewN ?_ _ | refine blk_drew ?_ | refine blk_alloc ?_ _)); exact BK266.out) k_ hn_)), Or.elim hk_ (fun hs_ => Or.elim hs_ (fun hs_ => (hs_).elim) (fun hs_ => Or.elim hs_ (fun hs_ => fun e_ => Nat.not_le.2 hs_ (by rw [e_]; exact GW267.out)) (fun hs_ => (hs_).elim))) (fun hn_ => (Kd.freshB (g := gb267) (o := .cells #[.slice Ao80 t261.length co80, .int .i64 t264] 33 (0, 0)) (by (with_reducible repeat (first | refine blk_drewN ?_ _ | refine blk_drew ?_ | refine blk_alloc ?_ _)); exact BK267.out) k_ hn_))⟩)) (below_size (by repeat (first | (with_reducible first | exact HB.out | apply below_alloc | apply pw_below_drewN | apply below_drew1 | refine below_set ?_ GE239.out | refine below_set ?_ GE243.out | refine below_set ?_ GE254.out | refine below_set ?_ GE255.out | refine below_set ?_ GE266.out | refine below_set ?_ GE267.out) | exact HB.out)))); have n6_ := Aside0.mk (blk_below (g := gb239) (o := .cells #[.int .i64 a0_0, .int .u64 a0_1, .slice A0_2 l0_2.length c0_2] 27 (0, 0)) (by (with_reducible repeat (first | refine blk_drewN ?_ _ | refine blk_drew ?_ | refine blk_alloc ?_ _)); exact BK239.out) hb); have n7_ := Aside0.mk (blk_below (g := gb243) (o := .cells #[.int .i64 a0_0, .int .u64 0, .slice none 0 0] 27 (0, 0)) (by (with_reducible repeat (first | refine blk_drewN ?_ _ | refine blk_drew ?_ | refine blk_alloc ?_ _)); exact BK243.out) hb); have n8_ := Aside0.mk (blk_below (g := gb254) (o := .cells #[.int .i64 t244, .int .u64 t245, .slice Ao60 t246.length co60] 27 (0, 0)) (by (with_reducible repeat (first | refine blk_drewN ?_ _ | refine blk_drew ?_ | refine blk_alloc ?_ _)); exact BK254.out) hb); have n9_ := Aside0.mk (blk_below (g := gb255) (o := .cells #[.slice Ao62 t249.length co62, .int .i64 t252] 33 (0, 0)) (by (with_reducible repeat (first | refine blk_drewN ?_ _ | refine blk_drew ?_ | refine blk_alloc ?_ _)); exact BK255.out) hb); have n10_ := Aside0.mk (blk_below (g := gb266) (o := .cells #[.int .i64 t256, .int .u64 t257, .slice Ao78 t258.length co78] 27 (0, 0)) (by (with_reducible repeat (first | refine blk_drewN ?_ _ | refine blk_drew ?_ | refine blk_alloc ?_ _)); exact BK266.out) hb); have n11_ := Aside0.mk (blk_below (g := gb267) (o := .cells #[.slice Ao80 t261.length co80, .int .i64 t264] 33 (0, 0)) (by (with_reducible repeat (first | refine blk_drewN ?_ _ | refine blk_drew ?_ | refine blk_alloc ?_ _)); exact BK267.out) hb); have n12_ := Aside0.mk (below_step (by repeat (first | (with_reducible first | exact HB.out | apply below_alloc | apply pw_below_drewN | apply below_drew1 | refine below_set ?_ GE239.out | refine below_set ?_ GE243.out | refine below_set ?_ GE254.out | refine below_set ?_ GE255.out | refine below_set ?_ GE266.out | refine below_set ?_ GE267.out) | exact HB.out)) hb); clear HO248; clear HO251; clear HO260; clear HO263; clear BK239; clear BK243; clear BK254; clear BK255; clear BK266; clear BK267; clear HB; have HO248 := n0_; have HO251 := n1_; have HO260 := n2_; have HO263 := n3_; have HO272 := n4_; have HO275 := n5_; have BK239 := n6_; have BK243 := n7_; have BK254 := n8_; have BK255 := n9_; have BK266 := n10_; have BK267 := n11_; have HB := n12_; clear n0_ n1_ n2_ n3_ n4_ n5_ n6_ n7_ n8_ n9_ n10_ n11_ n12_; (try clear hb); (try clear hb2); (try clear hk); (try clear hi); (try clear ho0); (try clear ho1)) | ((with_reducible refine gate_dst (N := 14) rfl ?_); (try (refine gate_guard (by rfl) ?_; dsimp only)); refine box_event ?hg (N := 14) ?hd (cs := #[.int .i64 0, .int .u64 0, .slice none 0 0]) (t := 27) ?hr ?_; (case hd => rfl); (case hg => rfl); (case hr => first | (go_simp; done) | (go_simp; rfl)); intro gb278 hg w90 hbox hb; have n0_ := Aside0.mk (Kd.V_below (Kd.V_elderB (by (with_reducible repeat (first | apply Kd.V_alloc | apply Kd.V_drewN | apply Kd.V_drew)); exact HO248.out) gb278 (Nat.le_of_eq hg.symm)) hb); have n1_ := Aside0.mk (Kd.V_below (Kd.V_elderB (by (with_reducible repeat (first | apply Kd.V_alloc | apply Kd.V_drewN | apply Kd.V_drew)); exact HO251.out) gb278 (Nat.le_of_eq hg.symm)) hb); have n2_ := Aside0.mk (Kd.V_below (Kd.V_elderB (by (with_reducible repeat (first | apply Kd.V_alloc | apply Kd.V_drewN | apply Kd.V_drew)); exact HO260.out) gb278 (Nat.le_of_eq hg.symm)) hb); have n3_ := Aside0.mk (Kd.V_below (Kd.V_elderB (by (with_reducible repeat (first | apply Kd.V_alloc | apply Kd.V_drewN | apply Kd.V_drew)); exact HO263.out) gb278 (Nat.le_of_eq hg.symm)) hb); have n4_ := Aside0.mk (Kd.V_below (Kd.V_elderB (by (with_reducible repeat (first | apply Kd.V_alloc | apply Kd.V_drewN | apply Kd.V_drew)); exact HO272.out) gb278 (Nat.le_of_eq hg.symm)) hb); have n5_ := Aside0.mk (Kd.V_below (Kd.V_elderB (by (with_reducible repeat (first | apply Kd.V_alloc | apply Kd.V_drewN | apply Kd.V_drew)); exact HO275.out) gb278 (Nat.le_of_eq hg.symm)) hb); have n6_ := Aside0.mk (blk_below (g := gb239) (o := .cells #[.int .i64 a0_0, .int .u64 a0_1, .slice A0_2 l0_2.length c0_2] 27 (0, 0)) (by (with_reducible repeat (first | refine blk_drewN ?_ _ | refine blk_drew ?_ | refine blk_alloc ?_ _)); exact BK239.out) hb); have n7_ := Aside0.mk (blk_below (g := gb243) (o := .cells #[.int .i64 a0_0, .int .u64 0, .slice none 0 0] 27 (0, 0)) (by (with_reducible repeat (first | refine blk_drewN ?_ _ | refine blk_drew ?_ | refine blk_alloc ?_ _)); exact BK243.out) hb); have n8_ := Aside0.mk (blk_below (g := gb254) (o := .cells #[.int .i64 t244, .int .u64 t245, .slice Ao60 t246.length co60] 27 (0, 0)) (by (with_reducible repeat (first | refine blk_drewN ?_ _ | refine blk_drew ?_ | refine blk_alloc ?_ _)); exact BK254.out) hb); have n9_ := Aside0.mk (blk_below (g := gb255) (o := .cells #[.slice Ao62 t249.length co62, .int .i64 t252] 33 (0, 0)) (by (with_reducible repeat (first | refine blk_drewN ?_ _ | refine blk_drew ?_ | refine blk_alloc ?_ _)); exact BK255.out) hb); have n10_ := Aside0.mk (blk_below (g := gb266) (o := .cells #[.int .i64 t256, .int .u64 t257, .slice Ao78 t258.length co78] 27 (0, 0)) (by (with_reducible repeat (first | refine blk_drewN ?_ _ | refine blk_drew ?_ | refine blk_alloc ?_ _)); exact BK266.out) hb); have n11_ := Aside0.mk (blk_below (g := gb267) (o := .cells #[.slice Ao80 t261.length co80, .int .i64 t264] 33 (0, 0)) (by (with_reducible repeat (first | refine blk_drewN ?_ _ | refine blk_drew ?_ | refine blk_alloc ?_ _)); exact BK267.out) hb); have n12_ := Aside0.mk (below_step (by repeat (first | (with_reducible first | exact HB.out | apply below_alloc | apply pw_below_drewN | apply below_drew1 | refine below_set ?_ GE239.out | refine below_set ?_ GE243.out | refine below_set ?_ GE254.out | refine below_set ?_ GE255.out | refine below_set ?_ GE266.out | refine below_set ?_ GE267.out) | exact HB.out)) hb); have n13_ := Aside0.mk (hbox); have n14_ := Aside0.mk ((by rw [hg]; exact (below_size (by repeat (first | (with_reducible first | exact HB.out | apply below_alloc | apply pw_below_drewN | apply below_drew1 | refine below_set ?_ GE239.out | refine below_set ?_ GE243.out | refine below_set ?_ GE254.out | refine below_set ?_ GE255.out | refine below_set ?_ GE266.out | refine below_set ?_ GE267.out) | exact HB.out))) : w.heap.size ≤ gb278)); have n15_ := Aside0.mk ((by rw [hg]; exact (below_size (by repeat (first | (with_reducible first | exact HB.out | apply below_alloc | apply pw_below_drewN | apply below_drew1 | refine below_set ?_ GE239.out | refine below_set ?_ GE243.out | refine below_set ?_ GE254.out | refine below_set ?_ GE255.out | refine below_set ?_ GE266.out | refine below_set ?_ GE267.out) | exact HB.out))) : w.heap.size ≤ gb278)); have n16_ := Aside0.mk ((by rw [hg]; exact Nat.ne_of_lt (blk_lt (g := gb239) (o := .cells #[.int .i64 a0_0, .int .u64 a0_1, .slice A0_2 l0_2.length c0_2] 27 (0, 0)) (by (with_reducible repeat (first | refine blk_drewN ?_ _ | refine blk_drew ?_ | refine blk_alloc ?_ _)); exact BK239.out)) : gb239 ≠ gb278)); have n17_ := Aside0.mk ((by rw [hg]; exact Nat.ne_of_gt (blk_lt (g := gb239) (o := .cells #[.int .i64 a0_0, .int .u64 a0_1, .slice A0_2 l0_2.length c0_2] 27 (0, 0)) (by (with_reducible repeat (first | refine blk_drewN ?_ _ | refine blk_drew ?_ | refine blk_alloc ?_ _)); exact BK239.out)) : gb278 ≠ gb239)); have n18_ := Aside0.mk ((by rw [hg]; exact Nat.ne_of_lt (blk_lt (g := gb243) (o := .cells #[.int .i64 a0_0, .int .u64 0, .slice none 0 0] 27 (0, 0)) (by (with_reducible repeat (first | refine blk_drewN ?_ _ | refine blk_drew ?_ | refine blk_alloc ?_ _)); exact BK243.out)) : gb243 ≠ gb278)); have n19_ := Aside0.mk ((by rw [hg]; exact Nat.ne_of_gt (blk_lt (g := gb243) (o := .cells #[.int .i64 a0_0, .int .u64 0, .slice none 0 0] 27 (0, 0)) (by (with_reducible repeat (first | refine blk_drewN ?_ _ | refine blk_drew ?_ | refine blk_alloc ?_ _)); exact BK243.out)) : gb278 ≠ gb243)); have n20_ := Aside0.mk ((by rw [hg]; exact Nat.ne_of_lt (blk_lt (g := gb254) (o := .cells #[.int .i64 t244, .int .u64 t245, .slice Ao60 t246.length co60] 27 (0, 0)) (by (with_reducible repeat (first | refine blk_drewN ?_ _ | refine blk_drew ?_ | refine blk_alloc ?_ _)); exact BK254.out)) : gb254 ≠ gb278)); have n21_ := Aside0.mk ((by rw [hg]; exact Nat.ne_of_gt (blk_lt (g := gb254) (o := .cells #[.int .i64 t244, .int .u64 t245, .slice Ao60 t246.length co60] 27 (0, 0)) (by (with_reducible repeat (first | refine blk_drewN ?_ _ | refine blk_drew ?_ | refine blk_alloc ?_ _)); exact BK254.out)) : gb278 ≠ gb254)); have n22_ := Aside0.mk ((by rw [hg]; exact Nat.ne_of_lt (blk_lt (g := gb255) (o := .cells #[.slice Ao62 t249.length co62, .int .i64 t252] 33 (0, 0)) (by (with_reducible repeat (first | refine blk_drewN ?_ _ | refine blk_drew ?_ | refine blk_alloc ?_ _)); exact BK255.out)) : gb255 ≠ gb278)); have n23_ := Aside0.mk ((by rw [hg]; exact Nat.ne_of_gt (blk_lt (g := gb255) (o := .cells #[.slice Ao62 t249.length co62, .int .i64 t252] 33 (0, 0)) (by (with_reducible repeat (first | refine blk_drewN ?_ _ | refine blk_drew ?_ | refine blk_alloc ?_ _)); exact BK255.out)) : gb278 ≠ gb255)); have n24_ := Aside0.mk ((by rw [hg]; exact Nat.ne_of_lt (blk_lt (g := gb266) (o := .cells #[.int .i64 t256, .int .u64 t257, .slice Ao78 t258.length co78] 27 (0, 0)) (by (with_reducible repeat (first | refine blk_drewN ?_ _ | refine blk_drew ?_ | refine blk_alloc ?_ _)); exact BK266.out)) : gb266 ≠ gb278)); have n25_ := Aside0.mk ((by rw [hg]; exact Nat.ne_of_gt (blk_lt (g := gb266) (o := .cells #[.int .i64 t256, .int .u64 t257, .slice Ao78 t258.length co78] 27 (0, 0)) (by (with_reducible repeat (first | refine blk_drewN ?_ _ | refine blk_drew ?_ | refine blk_alloc ?_ _)); exact BK266.out)) : gb278 ≠ gb266)); have n26_ := Aside0.mk ((by rw [hg]; exact Nat.ne_of_lt (blk_lt (g := gb267) (o := .cells #[.slice Ao80 t261.length co80, .int .i64 t264] 33 (0, 0)) (by (with_reducible repeat (first | refine blk_drewN ?_ _ | refine blk_drew ?_ | refine blk_alloc ?_ _)); exact BK267.out)) : gb267 ≠ gb278)); have n27_ := Aside0.mk ((by rw [hg]; exact Nat.ne_of_gt (blk_lt (g := gb267) (o := .cells #[.slice Ao80 t261.length co80, .int .i64 t264] 33 (0, 0)) (by (with_reducible repeat (first | refine blk_drewN ?_ _ | refine blk_drew ?_ | refine blk_alloc ?_ _)); exact BK267.out)) : gb278 ≠ gb267)); clear HO248; clear HO251; clear HO260; clear HO263; clear HO272; clear HO275; clear BK239; clear BK243; clear BK254; clear BK255; clear BK266; clear BK267; clear HB; have HO248 := n0_; have HO251 := n1_; have HO260 := n2_; have HO263 := n3_; have HO272 := n4_; have HO275 := n5_; have BK239 := n6_; have BK243 := n7_; have BK254 := n8_; have BK255 := n9_; have BK266 := n10_; have BK267 := n11_; have HB := n12_; have BK278 := n13_; have GW278 := n14_; have GE278 := n15_; have NB239_278 := n16_; have NB278_239 := n17_; have NB243_278 := n18_; have NB278_243 := n19_; have NB254_278 := n20_; have NB278_254 := n21_; have NB255_278 := n22_; have NB278_255 := n23_; have NB266_278 := n24_; have NB278_266 := n25_; have NB267_278 := n26_; have NB278_267 := n27_; clear n0_ n1_ n2_ n3_ n4_ n5_ n6_ n7_ n8_ n9_ n10_ n11_ n12_ n13_ n14_ n15_ n16_ n17_ n18_ n19_ n20_ n21_ n22_ n23_ n24_ n25_ n26_ n27_; clear hb hbox hg) | ((with_reducible refine gate_dst (N := 15) rfl ?_); (try (refine gate_guard (by rfl) ?_; dsimp only)); refine box_event ?hg (N := 15) ?hd (cs := #[.slice none 0 0, .int .i64 0]) (t := 33) ?hr ?_; (case hd => rfl); (case hg => rfl); (case hr => first | (go_simp; done) | (go_simp; rfl)); intro gb279 hg w91 hbox hb; have n0_ := Aside0.mk (Kd.V_below (Kd.V_elderB (by (with_reducible repeat (first | apply Kd.V_alloc | apply Kd.V_drewN | apply Kd.V_drew)); exact HO248.out) gb279 (Nat.le_of_eq hg.symm)) hb); have n1_ := Aside0.mk (Kd.V_below (Kd.V_elderB (by (with_reducible repeat (first | apply Kd.V_alloc | apply Kd.V_drewN | apply Kd.V_drew)); exact HO251.out) gb279 (Nat.le_of_eq hg.symm)) hb); have n2_ := Aside0.mk (Kd.V_below (Kd.V_elderB (by (with_reducible repeat (first | apply Kd.V_alloc | apply Kd.V_drewN | apply Kd.V_drew)); exact HO260.out) gb279 (Nat.le_of_eq hg.symm)) hb); have n3_ := Aside0.mk (Kd.V_below (Kd.V_elderB (by (with_reducible repeat (first | apply Kd.V_alloc | apply Kd.V_drewN | apply Kd.V_drew)); exact HO263.out) gb279 (Nat.le_of_eq hg.symm)) hb); have n4_ := Aside0.mk (Kd.V_below (Kd.V_elderB (by (with_reducible repeat (first | apply Kd.V_alloc | apply Kd.V_drewN | apply Kd.V_drew)); exact HO272.out) gb279 (Nat.le_of_eq hg.symm)) hb); have n5_ := Aside0.mk (Kd.V_below (Kd.V_elderB (by (with_reducible repeat (first | apply Kd.V_alloc | apply Kd.V_drewN | apply Kd.V_drew)); exact HO275.out) gb279 (Nat.le_of_eq hg.symm)) hb); have n6_ := Aside0.mk (blk_below (g := gb239) (o := .cells #[.int .i64 a0_0, .int .u64 a0_1, .slice A0_2 l0_2.length c0_2] 27 (0, 0)) (by (with_reducible repeat (first | refine blk_drewN ?_ _ | refine blk_drew ?_ | refine blk_alloc ?_ _)); exact BK239.out) hb); have n7_ := Aside0.mk (blk_below (g := gb243) (o := .cells #[.int .i64 a0_0, .int .u64 0, .slice none 0 0] 27 (0, 0)) (by (with_reducible repeat (first | refine blk_drewN ?_ _ | refine blk_drew ?_ | refine blk_alloc ?_ _)); exact BK243.out) hb); have n8_ := Aside0.mk (blk_below (g := gb254) (o := .cells #[.int .i64 t244, .int .u64 t245, .slice Ao60 t246.length co60] 27 (0, 0)) (by (with_reducible repeat (first | refine blk_drewN ?_ _ | refine blk_drew ?_ | refine blk_alloc ?_ _)); exact BK254.out) hb); have n9_ := Aside0.mk (blk_below (g := gb255) (o := .cells #[.slice Ao62 t249.length co62, .int .i64 t252] 33 (0, 0)) (by (with_reducible repeat (first | refine blk_drewN ?_ _ | refine blk_drew ?_ | refine blk_alloc ?_ _)); exact BK255.out) hb); have n10_ := Aside0.mk (blk_below (g := gb266) (o := .cells #[.int .i64 t256, .int .u64 t257, .slice Ao78 t258.length co78] 27 (0, 0)) (by (with_reducible repeat (first | refine blk_drewN ?_ _ | refine blk_drew ?_ | refine blk_alloc ?_ _)); exact BK266.out) hb); have n11_ := Aside0.mk (blk_below (g := gb267) (o := .cells #[.slice Ao80 t261.length co80, .int .i64 t264] 33 (0, 0)) (by (with_reducible repeat (first | refine blk_drewN ?_ _ | refine blk_drew ?_ | refine blk_alloc ?_ _)); exact BK267.out) hb); have n12_ := Aside0.mk (blk_below (g := gb278) (o := .cells #[.int .i64 0, .int .u64 0, .slice none 0 0] 27 (0, 0)) (by (with_reducible repeat (first | refine blk_drewN ?_ _ | refine blk_drew ?_ | refine blk_alloc ?_ _)); exact BK278.out) hb); have n13_ := Aside0.mk (below_step (by repeat (first | (with_reducible first | exact HB.out | apply below_alloc | apply pw_below_drewN | apply below_drew1 | refine below_set ?_ GE239.out | refine below_set ?_ GE243.out | refine below_set ?_ GE254.out | refine below_set ?_ GE255.out | refine below_set ?_ GE266.out | refine below_set ?_ GE267.out | refine below_set ?_ GE278.out) | exact HB.out)) hb); have n14_ := Aside0.mk (hbox); have n15_ := Aside0.mk ((by rw [hg]; exact (below_size (by repeat (first | (with_reducible first | exact HB.out | apply below_alloc | apply pw_below_drewN | apply below_drew1 | refine below_set ?_ GE239.out | refine below_set ?_ GE243.out | refine below_set ?_ GE254.out | refine below_set ?_ GE255.out | refine below_set ?_ GE266.out | refine below_set ?_ GE267.out | refine below_set ?_ GE278.out) | exact HB.out))) : w.heap.size ≤ gb279)); have n16_ := Aside0.mk ((by rw [hg]; exact (below_size (by repeat (first | (with_reducible first | exact HB.out | apply below_alloc | apply pw_below_drewN | apply below_drew1 | refine below_set ?_ GE239.out | refine below_set ?_ GE243.out | refine below_set ?_ GE254.out | refine below_set ?_ GE255.out | refine below_set ?_ GE266.out | refine below_set ?_ GE267.out | refine below_set ?_ GE278.out) | exact HB.out))) : w.heap.size ≤ gb279)); have n17_ := Aside0.mk ((by rw [hg]; exact Nat.ne_of_lt (blk_lt (g := gb239) (o := .cells #[.int .i64 a0_0, .int .u64 a0_1, .slice A0_2 l0_2.length c0_2] 27 (0, 0)) (by (with_reducible repeat (first | refine blk_drewN ?_ _ | refine blk_drew ?_ | refine blk_alloc ?_ _)); exact BK239.out)) : gb239 ≠ gb279)); have n18_ := Aside0.mk ((by rw [hg]; exact Nat.ne_of_gt (blk_lt (g := gb239) (o := .cells #[.int .i64 a0_0, .int .u64 a0_1, .slice A0_2 l0_2.length c0_2] 27 (0, 0)) (by (with_reducible repeat (first | refine blk_drewN ?_ _ | refine blk_drew ?_ | refine blk_alloc ?_ _)); exact BK239.out)) : gb279 ≠ gb239)); have n19_ := Aside0.mk ((by rw [hg]; exact Nat.ne_of_lt (blk_lt (g := gb243) (o := .cells #[.int .i64 a0_0, .int .u64 0, .slice none 0 0] 27 (0, 0)) (by (with_reducible repeat (first | refine blk_drewN ?_ _ | refine blk_drew ?_ | refine blk_alloc ?_ _)); exact BK243.out)) : gb243 ≠ gb279)); have n20_ := Aside0.mk ((by rw [hg]; exact Nat.ne_of_gt (blk_lt (g := gb243) (o := .cells #[.int .i64 a0_0, .int .u64 0, .slice none 0 0] 27 (0, 0)) (by (with_reducible repeat (first | refine blk_drewN ?_ _ | refine blk_drew ?_ | refine blk_alloc ?_ _)); exact BK243.out)) : gb279 ≠ gb243)); have n21_ := Aside0.mk ((by rw [hg]; exact Nat.ne_of_lt (blk_lt (g := gb254) (o := .cells #[.int .i64 t244, .int .u64 t245, .slice Ao60 t246.length co60] 27 (0, 0)) (by (with_reducible repeat (first | refine blk_drewN ?_ _ | refine blk_drew ?_ | refine blk_alloc ?_ _)); exact BK254.out)) : gb254 ≠ gb279)); have n22_ := Aside0.mk ((by rw [hg]; exact Nat.ne_of_gt (blk_lt (g := gb254) (o := .cells #[.int .i64 t244, .int .u64 t245, .slice Ao60 t246.length co60] 27 (0, 0)) (by (with_reducible repeat (first | refine blk_drewN ?_ _ | refine blk_drew ?_ | refine blk_alloc ?_ _)); exact BK254.out)) : gb279 ≠ gb254)); have n23_ := Aside0.mk ((by rw [hg]; exact Nat.ne_of_lt (blk_lt (g := gb255) (o := .cells #[.slice Ao62 t249.length co62, .int .i64 t252] 33 (0, 0)) (by (with_reducible repeat (first | refine blk_drewN ?_ _ | refine blk_drew ?_ | refine blk_alloc ?_ _)); exact BK255.out)) : gb255 ≠ gb279)); have n24_ := Aside0.mk ((by rw [hg]; exact Nat.ne_of_gt (blk_lt (g := gb255) (o := .cells #[.slice Ao62 t249.length co62, .int .i64 t252] 33 (0, 0)) (by (with_reducible repeat (first | refine blk_drewN ?_ _ | refine blk_drew ?_ | refine blk_alloc ?_ _)); exact BK255.out)) : gb279 ≠ gb255)); have n25_ := Aside0.mk ((by rw [hg]; exact Nat.ne_of_lt (blk_lt (g := gb266) (o := .cells #[.int .i64 t256, .int .u64 t257, .slice Ao78 t258.length co78] 27 (0, 0)) (by (with_reducible repeat (first | refine blk_drewN ?_ _ | refine blk_drew ?_ | refine blk_alloc ?_ _)); exact BK266.out)) : gb266 ≠ gb279)); have n26_ := Aside0.mk ((by rw [hg]; exact Nat.ne_of_gt (blk_lt (g := gb266) (o := .cells #[.int .i64 t256, .int .u64 t257, .slice Ao78 t258.length co78] 27 (0, 0)) (by (with_reducible repeat (first | refine blk_drewN ?_ _ | refine blk_drew ?_ | refine blk_alloc ?_ _)); exact BK266.out)) : gb279 ≠ gb266)); have n27_ := Aside0.mk ((by rw [hg]; exact Nat.ne_of_lt (blk_lt (g := gb267) (o := .cells #[.slice Ao80 t261.length co80, .int .i64 t264] 33 (0, 0)) (by (with_reducible repeat (first | refine blk_drewN ?_ _ | refine blk_drew ?_ | refine blk_alloc ?_ _)); exact BK267.out)) : gb267 ≠ gb279)); have n28_ := Aside0.mk ((by rw [hg]; exact Nat.ne_of_gt (blk_lt (g := gb267) (o := .cells #[.slice Ao80 t261.length co80, .int .i64 t264] 33 (0, 0)) (by (with_reducible repeat (first | refine blk_drewN ?_ _ | refine blk_drew ?_ | refine blk_alloc ?_ _)); exact BK267.out)) : gb279 ≠ gb267)); have n29_ := Aside0.mk ((by rw [hg]; exact Nat.ne_of_lt (blk_lt (g := gb278) (o := .cells #[.int .i64 0, .int .u64 0, .slice none 0 0] 27 (0, 0)) (by (with_reducible repeat (first | refine blk_drewN ?_ _ | refine blk_drew ?_ | refine blk_alloc ?_ _)); exact BK278.out)) : gb278 ≠ gb279)); have n30_ := Aside0.mk ((by rw [hg]; exact Nat.ne_of_gt (blk_lt (g := gb278) (o := .cells #[.int .i64 0, .int .u64 0, .slice none 0 0] 27 (0, 0)) (by (with_reducible repeat (first | refine blk_drewN ?_ _ | refine blk_drew ?_ | refine blk_alloc ?_ _)); exact BK278.out)) : gb279 ≠ gb278)); clear HO248; clear HO251; clear HO260; clear HO263; clear HO272; clear HO275; clear BK239; clear BK243; clear BK254; clear BK255; clear BK266; clear BK267; clear BK278; clear HB; have HO248 := n0_; have HO251 := n1_; have HO260 := n2_; have HO263 := n3_; have HO272 := n4_; have HO275 := n5_; have BK239 := n6_; have BK243 := n7_; have BK254 := n8_; have BK255 := n9_; have BK266 := n10_; have BK267 := n11_; have BK278 := n12_; have HB := n13_; have BK279 := n14_; have GW279 := n15_; have GE279 := n16_; have NB239_279 := n17_; have NB279_239 := n18_; have NB243_279 := n19_; have NB279_243 := n20_; have NB254_279 := n21_; have NB279_254 := n22_; have NB255_279 := n23_; have NB279_255 := n24_; have NB266_279 := n25_; have NB279_266 := n26_; have NB267_279 := n27_; have NB279_267 := n28_; have NB278_279 := n29_; have NB279_278 := n30_; clear n0_ n1_ n2_ n3_ n4_ n5_ n6_ n7_ n8_ n9_ n10_ n11_ n12_ n13_ n14_ n15_ n16_ n17_ n18_ n19_ n20_ n21_ n22_ n23_ n24_ n25_ n26_ n27_ n28_ n29_ n30_; clear hb hbox hg; have hnb92 := NB278_239.out; have hnc92 := NB239_278.out; have hnb93 := NB278_243.out; have hnc93 := NB243_278.out; have hnb94 := NB278_254.out; have hnc94 := NB254_278.out; have hnb95 := NB278_255.out; have hnc95 := NB255_278.out; have hnb96 := NB278_266.out; have hnc96 := NB266_278.out; have hnb97 := NB278_267.out; have hnc97 := NB267_278.out; have hnb98 := NB278_279.out; have hnc98 := NB279_278.out; have hcz99_0 : w91.cell? ⟨gb278, 0, none⟩ = some (.int .i64 0) := (blk_cell BK278.out 0).trans rfl; have hcz99_1 : w91.cell? ⟨gb278, 1, none⟩ = some (.int .u64 0) := (blk_cell BK278.out 1).trans rfl; have hcz99_2 : w91.cell? ⟨gb278, 2, none⟩ = some (.slice none 0 0) := (blk_cell BK278.out 2).trans rfl; have hfz99_0 := blk_frozen BK278.out 0; have hfz99_1 := blk_frozen BK278.out 1; have hfz99_2 := blk_frozen BK278.out 2; obtain ⟨Ao100, co100, eo100⟩ := Kd.V_slice HO272.out; subst eo100; obtain ⟨Ao101, co101, eo101⟩ := Kd.V_slice HO275.out; subst eo101; have hnb102 := NB279_239.out; have hnc102 := NB239_279.out; have hnb103 := NB279_243.out; have hnc103 := NB243_279.out; have hnb104 := NB279_254.out; have hnc104 := NB254_279.out; have hnb105 := NB279_255.out; have hnc105 := NB255_279.out; have hnb106 := NB279_266.out; have hnc106 := NB266_279.out; have hnb107 := NB279_267.out; have hnc107 := NB267_279.out; have hcz108_0 : w91.cell? ⟨gb279, 0, none⟩ = some (.slice none 0 0) := (blk_cell BK279.out 0).trans rfl; have hcz108_1 : w91.cell? ⟨gb279, 1, none⟩ = some (.int .i64 0) := (blk_cell BK279.out 1).trans rfl; have hfz108_0 := blk_frozen BK279.out 0; have hfz108_1 := blk_frozen BK279.out 1))
             have n0_ : Aside0 (Kd.V Kd.string 9 (((((w91.setCell ⟨gb278, 0, none⟩ (.int .i64 t268)).setCell ⟨gb278, 1, none⟩ (.int .u64 t269)).setCell ⟨gb278, 2, none⟩ (.slice Ao100 t270.length co100)).setCell ⟨gb279, 0, none⟩ (.slice Ao101 t273.length co101)).setCell ⟨gb279, 1, none⟩ (.int .i64 t276)) w.heap.size (fun k_ => k_ ≠ gb239 ∧ k_ ≠ gb243 ∧ k_ ≠ gb254 ∧ k_ ≠ gb255 ∧ k_ ≠ gb266 ∧ k_ ≠ gb267 ∧ k_ ≠ gb278 ∧ k_ ≠ gb279) (.slice Ao60 t246.length co60) t246) := ⟨by (with_reducible repeat (first | apply Kd.V_alloc | apply Kd.V_drewN | apply Kd.V_drew)); exact Kd.V_mono (Kd.V_far (p := ⟨gb279, 1, none⟩) (Kd.V_far (p := ⟨gb279, 0, none⟩) (Kd.V_far (p := ⟨gb278, 2, none⟩) (Kd.V_far (p := ⟨gb278, 1, none⟩) (Kd.V_far (p := ⟨gb278, 0, none⟩) (Kd.V_mono (Kd.V_mono HO248.out (fun k_ hk => (⟨hk, hk.1.2⟩ : _ ∧ k_ ≠ gb278))) (fun k_ hk => (⟨hk, hk.1.2⟩ : _ ∧ k_ ≠ gb279))) (fun _ hk => hk.1.2) (.int .i64 t268)) (fun _ hk => hk.1.2) (.int .u64 t269)) (fun _ hk => hk.1.2) (.slice Ao100 t270.length co100)) (fun _ hk => hk.2) (.slice Ao101 t273.length co101)) (fun _ hk => hk.2) (.int .i64 t276)) (fun _ hk => ⟨hk.1.1.1.1.1, ⟨hk.1.1.1.1.2.1, ⟨hk.1.1.1.1.2.2.1, ⟨hk.1.1.1.1.2.2.2.1, ⟨hk.1.1.1.1.2.2.2.2.1, ⟨hk.1.1.1.1.2.2.2.2.2, ⟨hk.1.1.1.2, hk.1.1.2⟩⟩⟩⟩⟩⟩⟩)⟩
             have n1_ : Aside0 (Kd.V (Kd.int .u64) 24 (((((w91.setCell ⟨gb278, 0, none⟩ (.int .i64 t268)).setCell ⟨gb278, 1, none⟩ (.int .u64 t269)).setCell ⟨gb278, 2, none⟩ (.slice Ao100 t270.length co100)).setCell ⟨gb279, 0, none⟩ (.slice Ao101 t273.length co101)).setCell ⟨gb279, 1, none⟩ (.int .i64 t276)) w.heap.size (fun k_ => k_ ≠ gb239 ∧ k_ ≠ gb243 ∧ k_ ≠ gb254 ∧ k_ ≠ gb255 ∧ k_ ≠ gb266 ∧ k_ ≠ gb267 ∧ k_ ≠ gb278 ∧ k_ ≠ gb279) (.slice Ao62 t249.length co62) t249) := ⟨by (with_reducible repeat (first | apply Kd.V_alloc | apply Kd.V_drewN | apply Kd.V_drew)); exact Kd.V_mono (Kd.V_far (p := ⟨gb279, 1, none⟩) (Kd.V_far (p := ⟨gb279, 0, none⟩) (Kd.V_far (p := ⟨gb278, 2, none⟩) (Kd.V_far (p := ⟨gb278, 1, none⟩) (Kd.V_far (p := ⟨gb278, 0, none⟩) (Kd.V_mono (Kd.V_mono HO251.out (fun k_ hk => (⟨hk, hk.1.2⟩ : _ ∧ k_ ≠ gb278))) (fun k_ hk => (⟨hk, hk.1.2⟩ : _ ∧ k_ ≠ gb279))) (fun _ hk => hk.1.2) (.int .i64 t268)) (fun _ hk => hk.1.2) (.int .u64 t269)) (fun _ hk => hk.1.2) (.slice Ao100 t270.length co100)) (fun _ hk => hk.2) (.slice Ao101 t273.length co101)) (fun _ hk => hk.2) (.int .i64 t276)) (fun _ hk => ⟨hk.1.1.1.1.1, ⟨hk.1.1.1.1.2.1, ⟨hk.1.1.1.1.2.2.1, ⟨hk.1.1.1.1.2.2.2.1, ⟨hk.1.1.1.1.2.2.2.2.1, ⟨hk.1.1.1.1.2.2.2.2.2, ⟨hk.1.1.1.2, hk.1.1.2⟩⟩⟩⟩⟩⟩⟩)⟩
             have n2_ : Aside0 (Kd.V Kd.string 9 (((((w91.setCell ⟨gb278, 0, none⟩ (.int .i64 t268)).setCell ⟨gb278, 1, none⟩ (.int .u64 t269)).setCell ⟨gb278, 2, none⟩ (.slice Ao100 t270.length co100)).setCell ⟨gb279, 0, none⟩ (.slice Ao101 t273.length co101)).setCell ⟨gb279, 1, none⟩ (.int .i64 t276)) w.heap.size (fun k_ => k_ ≠ gb239 ∧ k_ ≠ gb243 ∧ k_ ≠ gb254 ∧ k_ ≠ gb255 ∧ k_ ≠ gb266 ∧ k_ ≠ gb267 ∧ k_ ≠ gb278 ∧ k_ ≠ gb279) (.slice Ao78 t258.length co78) t258) := ⟨by (with_reducible repeat (first | apply Kd.V_alloc | apply Kd.V_drewN | apply Kd.V_drew)); exact Kd.V_mono (Kd.V_far (p := ⟨gb279, 1, none⟩) (Kd.V_far (p := ⟨gb279, 0, none⟩) (Kd.V_far (p := ⟨gb278, 2, none⟩) (Kd.V_far (p := ⟨gb278, 1, none⟩) (Kd.V_far (p := ⟨gb278, 0, none⟩) (Kd.V_mono (Kd.V_mono HO260.out (fun k_ hk => (⟨hk, hk.1.2⟩ : _ ∧ k_ ≠ gb278))) (fun k_ hk => (⟨hk, hk.1.2⟩ : _ ∧ k_ ≠ gb279))) (fun _ hk => hk.1.2) (.int .i64 t268)) (fun _ hk => hk.1.2) (.int .u64 t269)) (fun _ hk => hk.1.2) (.slice Ao100 t270.length co100)) (fun _ hk => hk.2) (.slice Ao101 t273.length co101)) (fun _ hk => hk.2) (.int .i64 t276)) (fun _ hk => ⟨hk.1.1.1.1.1, ⟨hk.1.1.1.1.2.1, ⟨hk.1.1.1.1.2.2.1, ⟨hk.1.1.1.1.2.2.2.1, ⟨hk.1.1.1.1.2.2.2.2.1, ⟨hk.1.1.1.1.2.2.2.2.2, ⟨hk.1.1.1.2, hk.1.1.2⟩⟩⟩⟩⟩⟩⟩)⟩
             have n3_ : Aside0 (Kd.V (Kd.int .u64) 24 (((((w91.setCell ⟨gb278, 0, none⟩ (.int .i64 t268)).setCell ⟨gb278, 1, none⟩ (.int .u64 t269)).setCell ⟨gb278, 2, none⟩ (.slice Ao100 t270.length co100)).setCell ⟨gb279, 0, none⟩ (.slice Ao101 t273.length co101)).setCell ⟨gb279, 1, none⟩ (.int .i64 t276)) w.heap.size (fun k_ => k_ ≠ gb239 ∧ k_ ≠ gb243 ∧ k_ ≠ gb254 ∧ k_ ≠ gb255 ∧ k_ ≠ gb266 ∧ k_ ≠ gb267 ∧ k_ ≠ gb278 ∧ k_ ≠ gb279) (.slice Ao80 t261.length co80) t261) := ⟨by (with_reducible repeat (first | apply Kd.V_alloc | apply Kd.V_drewN | apply Kd.V_drew)); exact Kd.V_mono (Kd.V_far (p := ⟨gb279, 1, none⟩) (Kd.V_far (p := ⟨gb279, 0, none⟩) (Kd.V_far (p := ⟨gb278, 2, none⟩) (Kd.V_far (p := ⟨gb278, 1, none⟩) (Kd.V_far (p := ⟨gb278, 0, none⟩) (Kd.V_mono (Kd.V_mono HO263.out (fun k_ hk => (⟨hk, hk.1.2⟩ : _ ∧ k_ ≠ gb278))) (fun k_ hk => (⟨hk, hk.1.2⟩ : _ ∧ k_ ≠ gb279))) (fun _ hk => hk.1.2) (.int .i64 t268)) (fun _ hk => hk.1.2) (.int .u64 t269)) (fun _ hk => hk.1.2) (.slice Ao100 t270.length co100)) (fun _ hk => hk.2) (.slice Ao101 t273.length co101)) (fun _ hk => hk.2) (.int .i64 t276)) (fun _ hk => ⟨hk.1.1.1.1.1, ⟨hk.1.1.1.1.2.1, ⟨hk.1.1.1.1.2.2.1, ⟨hk.1.1.1.1.2.2.2.1, ⟨hk.1.1.1.1.2.2.2.2.1, ⟨hk.1.1.1.1.2.2.2.2.2, ⟨hk.1.1.1.2, hk.1.1.2⟩⟩⟩⟩⟩⟩⟩)⟩
             have n4_ : Aside0 (Kd.V Kd.string 9 (((((w91.setCell ⟨gb278, 0, none⟩ (.int .i64 t268)).setCell ⟨gb278, 1, none⟩ (.int .u64 t269)).setCell ⟨gb278, 2, none⟩ (.slice Ao100 t270.length co100)).setCell ⟨gb279, 0, none⟩ (.slice Ao101 t273.length co101)).setCell ⟨gb279, 1, none⟩ (.int .i64 t276)) w.heap.size (fun k_ => k_ ≠ gb239 ∧ k_ ≠ gb243 ∧ k_ ≠ gb254 ∧ k_ ≠ gb255 ∧ k_ ≠ gb266 ∧ k_ ≠ gb267 ∧ k_ ≠ gb278 ∧ k_ ≠ gb279) (.slice Ao100 t270.length co100) t270) := ⟨by (with_reducible repeat (first | apply Kd.V_alloc | apply Kd.V_drewN | apply Kd.V_drew)); exact Kd.V_mono (Kd.V_far (p := ⟨gb279, 1, none⟩) (Kd.V_far (p := ⟨gb279, 0, none⟩) (Kd.V_far (p := ⟨gb278, 2, none⟩) (Kd.V_far (p := ⟨gb278, 1, none⟩) (Kd.V_far (p := ⟨gb278, 0, none⟩) (Kd.V_mono (Kd.V_mono HO272.out (fun k_ hk => (⟨hk, hk.1.2⟩ : _ ∧ k_ ≠ gb278))) (fun k_ hk => (⟨hk, hk.1.2⟩ : _ ∧ k_ ≠ gb279))) (fun _ hk => hk.1.2) (.int .i64 t268)) (fun _ hk => hk.1.2) (.int .u64 t269)) (fun _ hk => hk.1.2) (.slice Ao100 t270.length co100)) (fun _ hk => hk.2) (.slice Ao101 t273.length co101)) (fun _ hk => hk.2) (.int .i64 t276)) (fun _ hk => ⟨hk.1.1.1.1.1, ⟨hk.1.1.1.1.2.1, ⟨hk.1.1.1.1.2.2.1, ⟨hk.1.1.1.1.2.2.2.1, ⟨hk.1.1.1.1.2.2.2.2.1, ⟨hk.1.1.1.1.2.2.2.2.2, ⟨hk.1.1.1.2, hk.1.1.2⟩⟩⟩⟩⟩⟩⟩)⟩
             have n5_ : Aside0 (Kd.V (Kd.int .u64) 24 (((((w91.setCell ⟨gb278, 0, none⟩ (.int .i64 t268)).setCell ⟨gb278, 1, none⟩ (.int .u64 t269)).setCell ⟨gb278, 2, none⟩ (.slice Ao100 t270.length co100)).setCell ⟨gb279, 0, none⟩ (.slice Ao101 t273.length co101)).setCell ⟨gb279, 1, none⟩ (.int .i64 t276)) w.heap.size (fun k_ => k_ ≠ gb239 ∧ k_ ≠ gb243 ∧ k_ ≠ gb254 ∧ k_ ≠ gb255 ∧ k_ ≠ gb266 ∧ k_ ≠ gb267 ∧ k_ ≠ gb278 ∧ k_ ≠ gb279) (.slice Ao101 t273.length co101) t273) := ⟨by (with_reducible repeat (first | apply Kd.V_alloc | apply Kd.V_drewN | apply Kd.V_drew)); exact Kd.V_mono (Kd.V_far (p := ⟨gb279, 1, none⟩) (Kd.V_far (p := ⟨gb279, 0, none⟩) (Kd.V_far (p := ⟨gb278, 2, none⟩) (Kd.V_far (p := ⟨gb278, 1, none⟩) (Kd.V_far (p := ⟨gb278, 0, none⟩) (Kd.V_mono (Kd.V_mono HO275.out (fun k_ hk => (⟨hk, hk.1.2⟩ : _ ∧ k_ ≠ gb278))) (fun k_ hk => (⟨hk, hk.1.2⟩ : _ ∧ k_ ≠ gb279))) (fun _ hk => hk.1.2) (.int .i64 t268)) (fun _ hk => hk.1.2) (.int .u64 t269)) (fun _ hk => hk.1.2) (.slice Ao100 t270.length co100)) (fun _ hk => hk.2) (.slice Ao101 t273.length co101)) (fun _ hk => hk.2) (.int .i64 t276)) (fun _ hk => ⟨hk.1.1.1.1.1, ⟨hk.1.1.1.1.2.1, ⟨hk.1.1.1.1.2.2.1, ⟨hk.1.1.1.1.2.2.2.1, ⟨hk.1.1.1.1.2.2.2.2.1, ⟨hk.1.1.1.1.2.2.2.2.2, ⟨hk.1.1.1.2, hk.1.1.2⟩⟩⟩⟩⟩⟩⟩)⟩
             have n6_ : Aside0 ((((((w91.setCell ⟨gb278, 0, none⟩ (.int .i64 t268)).setCell ⟨gb278, 1, none⟩ (.int .u64 t269)).setCell ⟨gb278, 2, none⟩ (.slice Ao100 t270.length co100)).setCell ⟨gb279, 0, none⟩ (.slice Ao101 t273.length co101)).setCell ⟨gb279, 1, none⟩ (.int .i64 t276)).heap[gb239]? = some (.cells #[.int .i64 a0_0, .int .u64 a0_1, .slice A0_2 l0_2.length c0_2] 27 (0, 0))) := ⟨by (with_reducible repeat (first | refine blk_drewN ?_ _ | refine blk_drew ?_ | refine blk_alloc ?_ _)); refine blk_far ?_ NB239_279.out _; (with_reducible repeat (first | refine blk_drewN ?_ _ | refine blk_drew ?_ | refine blk_alloc ?_ _)); refine blk_far ?_ NB239_279.out _; (with_reducible repeat (first | refine blk_drewN ?_ _ | refine blk_drew ?_ | refine blk_alloc ?_ _)); refine blk_far ?_ NB239_278.out _; (with_reducible repeat (first | refine blk_drewN ?_ _ | refine blk_drew ?_ | refine blk_alloc ?_ _)); refine blk_far ?_ NB239_278.out _; (with_reducible repeat (first | refine blk_drewN ?_ _ | refine blk_drew ?_ | refine blk_alloc ?_ _)); refine blk_far ?_ NB239_278.out _; (with_reducible repeat (first | refine blk_drewN ?_ _ | refine blk_drew ?_ | refine blk_alloc ?_ _)); exact BK239.out⟩
             have n7_ : Aside0 ((((((w91.setCell ⟨gb278, 0, none⟩ (.int .i64 t268)).setCell ⟨gb278, 1, none⟩ (.int .u64 t269)).setCell ⟨gb278, 2, none⟩ (.slice Ao100 t270.length co100)).setCell ⟨gb279, 0, none⟩ (.slice Ao101 t273.length co101)).setCell ⟨gb279, 1, none⟩ (.int .i64 t276)).heap[gb243]? = some (.cells #[.int .i64 a0_0, .int .u64 0, .slice none 0 0] 27 (0, 0))) := ⟨by (with_reducible repeat (first | refine blk_drewN ?_ _ | refine blk_drew ?_ | refine blk_alloc ?_ _)); refine blk_far ?_ NB243_279.out _; (with_reducible repeat (first | refine blk_drewN ?_ _ | refine blk_drew ?_ | refine blk_alloc ?_ _)); refine blk_far ?_ NB243_279.out _; (with_reducible repeat (first | refine blk_drewN ?_ _ | refine blk_drew ?_ | refine blk_alloc ?_ _)); refine blk_far ?_ NB243_278.out _; (with_reducible repeat (first | refine blk_drewN ?_ _ | refine blk_drew ?_ | refine blk_alloc ?_ _)); refine blk_far ?_ NB243_278.out _; (with_reducible repeat (first | refine blk_drewN ?_ _ | refine blk_drew ?_ | refine blk_alloc ?_ _)); refine blk_far ?_ NB243_278.out _; (with_reducible repeat (first | refine blk_drewN ?_ _ | refine blk_drew ?_ | refine blk_alloc ?_ _)); exact BK243.out⟩
             have n8_ : Aside0 ((((((w91.setCell ⟨gb278, 0, none⟩ (.int .i64 t268)).setCell ⟨gb278, 1, none⟩ (.int .u64 t269)).setCell ⟨gb278, 2, none⟩ (.slice Ao100 t270.length co100)).setCell ⟨gb279, 0, none⟩ (.slice Ao101 t273.length co101)).setCell ⟨gb279, 1, none⟩ (.int .i64 t276)).heap[gb254]? = some (.cells #[.int .i64 t244, .int .u64 t245, .slice Ao60 t246.length co60] 27 (0, 0))) := ⟨by (with_reducible repeat (first | refine blk_drewN ?_ _ | refine blk_drew ?_ | refine blk_alloc ?_ _)); refine blk_far ?_ NB254_279.out _; (with_reducible repeat (first | refine blk_drewN ?_ _ | refine blk_drew ?_ | refine blk_alloc ?_ _)); refine blk_far ?_ NB254_279.out _; (with_reducible repeat (first | refine blk_drewN ?_ _ | refine blk_drew ?_ | refine blk_alloc ?_ _)); refine blk_far ?_ NB254_278.out _; (with_reducible repeat (first | refine blk_drewN ?_ _ | refine blk_drew ?_ | refine blk_alloc ?_ _)); refine blk_far ?_ NB254_278.out _; (with_reducible repeat (first | refine blk_drewN ?_ _ | refine blk_drew ?_ | refine blk_alloc ?_ _)); refine blk_far ?_ NB254_278.out _; (with_reducible repeat (first | refine blk_drewN ?_ _ | refine blk_drew ?_ | refine blk_alloc ?_ _)); exact BK254.out⟩
             have n9_ : Aside0 ((((((w91.setCell ⟨gb278, 0, none⟩ (.int .i64 t268)).setCell ⟨gb278, 1, none⟩ (.int .u64 t269)).setCell ⟨gb278, 2, none⟩ (.slice Ao100 t270.length co100)).setCell ⟨gb279, 0, none⟩ (.slice Ao101 t273.length co101)).setCell ⟨gb279, 1, none⟩ (.int .i64 t276)).heap[gb255]? = some (.cells #[.slice Ao62 t249.length co62, .int .i64 t252] 33 (0, 0))) := ⟨by (with_reducible repeat (first | refine blk_drewN ?_ _ | refine blk_drew ?_ | refine blk_alloc ?_ _)); refine blk_far ?_ NB255_279.out _; (with_reducible repeat (first | refine blk_drewN ?_ _ | refine blk_drew ?_ | refine blk_alloc ?_ _)); refine blk_far ?_ NB255_279.out _; (with_reducible repeat (first | refine blk_drewN ?_ _ | refine blk_drew ?_ | refine blk_alloc ?_ _)); refine blk_far ?_ NB255_278.out _; (with_reducible repeat (first | refine blk_drewN ?_ _ | refine blk_drew ?_ | refine blk_alloc ?_ _)); refine blk_far ?_ NB255_278.out _; (with_reducible repeat (first | refine blk_drewN ?_ _ | refine blk_drew ?_ | refine blk_alloc ?_ _)); refine blk_far ?_ NB255_278.out _; (with_reducible repeat (first | refine blk_drewN ?_ _ | refine blk_drew ?_ | refine blk_alloc ?_ _)); exact BK255.out⟩
             have n10_ : Aside0 ((((((w91.setCell ⟨gb278, 0, none⟩ (.int .i64 t268)).setCell ⟨gb278, 1, none⟩ (.int .u64 t269)).setCell ⟨gb278, 2, none⟩ (.slice Ao100 t270.length co100)).setCell ⟨gb279, 0, none⟩ (.slice Ao101 t273.length co101)).setCell ⟨gb279, 1, none⟩ (.int .i64 t276)).heap[gb266]? = some (.cells #[.int .i64 t256, .int .u64 t257, .slice Ao78 t258.length co78] 27 (0, 0))) := ⟨by (with_reducible repeat (first | refine blk_drewN ?_ _ | refine blk_drew ?_ | refine blk_alloc ?_ _)); refine blk_far ?_ NB266_279.out _; (with_reducible repeat (first | refine blk_drewN ?_ _ | refine blk_drew ?_ | refine blk_alloc ?_ _)); refine blk_far ?_ NB266_279.out _; (with_reducible repeat (first | refine blk_drewN ?_ _ | refine blk_drew ?_ | refine blk_alloc ?_ _)); refine blk_far ?_ NB266_278.out _; (with_reducible repeat (first | refine blk_drewN ?_ _ | refine blk_drew ?_ | refine blk_alloc ?_ _)); refine blk_far ?_ NB266_278.out _; (with_reducible repeat (first | refine blk_drewN ?_ _ | refine blk_drew ?_ | refine blk_alloc ?_ _)); refine blk_far ?_ NB266_278.out _; (with_reducible repeat (first | refine blk_drewN ?_ _ | refine blk_drew ?_ | refine blk_alloc ?_ _)); exact BK266.out⟩
             have n11_ : Aside0 ((((((w91.setCell ⟨gb278, 0, none⟩ (.int .i64 t268)).setCell ⟨gb278, 1, none⟩ (.int .u64 t269)).setCell ⟨gb278, 2, none⟩ (.slice Ao100 t270.length co100)).setCell ⟨gb279, 0, none⟩ (.slice Ao101 t273.length co101)).setCell ⟨gb279, 1, none⟩ (.int .i64 t276)).heap[gb267]? = some (.cells #[.slice Ao80 t261.length co80, .int .i64 t264] 33 (0, 0))) := ⟨by (with_reducible repeat (first | refine blk_drewN ?_ _ | refine blk_drew ?_ | refine blk_alloc ?_ _)); refine blk_far ?_ NB267_279.out _; (with_reducible repeat (first | refine blk_drewN ?_ _ | refine blk_drew ?_ | refine blk_alloc ?_ _)); refine blk_far ?_ NB267_279.out _; (with_reducible repeat (first | refine blk_drewN ?_ _ | refine blk_drew ?_ | refine blk_alloc ?_ _)); refine blk_far ?_ NB267_278.out _; (with_reducible repeat (first | refine blk_drewN ?_ _ | refine blk_drew ?_ | refine blk_alloc ?_ _)); refine blk_far ?_ NB267_278.out _; (with_reducible repeat (first | refine blk_drewN ?_ _ | refine blk_drew ?_ | refine blk_alloc ?_ _)); refine blk_far ?_ NB267_278.out _; (with_reducible repeat (first | refine blk_drewN ?_ _ | refine blk_drew ?_ | refine blk_alloc ?_ _)); exact BK267.out⟩
             have n12_ : Aside0 ((((((w91.setCell ⟨gb278, 0, none⟩ (.int .i64 t268)).setCell ⟨gb278, 1, none⟩ (.int .u64 t269)).setCell ⟨gb278, 2, none⟩ (.slice Ao100 t270.length co100)).setCell ⟨gb279, 0, none⟩ (.slice Ao101 t273.length co101)).setCell ⟨gb279, 1, none⟩ (.int .i64 t276)).heap[gb278]? = some (.cells #[.int .i64 t268, .int .u64 t269, .slice Ao100 t270.length co100] 27 (0, 0))) := ⟨by (with_reducible repeat (first | refine blk_drewN ?_ _ | refine blk_drew ?_ | refine blk_alloc ?_ _)); refine blk_far ?_ NB278_279.out _; (with_reducible repeat (first | refine blk_drewN ?_ _ | refine blk_drew ?_ | refine blk_alloc ?_ _)); refine blk_far ?_ NB278_279.out _; (with_reducible repeat (first | refine blk_drewN ?_ _ | refine blk_drew ?_ | refine blk_alloc ?_ _)); refine blk_put (cs := #[.int .i64 t268, .int .u64 t269, .slice none 0 0]) ?_ 2 _ rfl; (with_reducible repeat (first | refine blk_drewN ?_ _ | refine blk_drew ?_ | refine blk_alloc ?_ _)); refine blk_put (cs := #[.int .i64 t268, .int .u64 0, .slice none 0 0]) ?_ 1 _ rfl; (with_reducible repeat (first | refine blk_drewN ?_ _ | refine blk_drew ?_ | refine blk_alloc ?_ _)); refine blk_put (cs := #[.int .i64 0, .int .u64 0, .slice none 0 0]) ?_ 0 _ rfl; (with_reducible repeat (first | refine blk_drewN ?_ _ | refine blk_drew ?_ | refine blk_alloc ?_ _)); exact BK278.out⟩
             have n13_ : Aside0 ((((((w91.setCell ⟨gb278, 0, none⟩ (.int .i64 t268)).setCell ⟨gb278, 1, none⟩ (.int .u64 t269)).setCell ⟨gb278, 2, none⟩ (.slice Ao100 t270.length co100)).setCell ⟨gb279, 0, none⟩ (.slice Ao101 t273.length co101)).setCell ⟨gb279, 1, none⟩ (.int .i64 t276)).heap[gb279]? = some (.cells #[.slice Ao101 t273.length co101, .int .i64 t276] 33 (0, 0))) := ⟨by (with_reducible repeat (first | refine blk_drewN ?_ _ | refine blk_drew ?_ | refine blk_alloc ?_ _)); refine blk_put (cs := #[.slice Ao101 t273.length co101, .int .i64 0]) ?_ 1 _ rfl; (with_reducible repeat (first | refine blk_drewN ?_ _ | refine blk_drew ?_ | refine blk_alloc ?_ _)); refine blk_put (cs := #[.slice none 0 0, .int .i64 0]) ?_ 0 _ rfl; (with_reducible repeat (first | refine blk_drewN ?_ _ | refine blk_drew ?_ | refine blk_alloc ?_ _)); refine blk_far ?_ NB279_278.out _; (with_reducible repeat (first | refine blk_drewN ?_ _ | refine blk_drew ?_ | refine blk_alloc ?_ _)); refine blk_far ?_ NB279_278.out _; (with_reducible repeat (first | refine blk_drewN ?_ _ | refine blk_drew ?_ | refine blk_alloc ?_ _)); refine blk_far ?_ NB279_278.out _; (with_reducible repeat (first | refine blk_drewN ?_ _ | refine blk_drew ?_ | refine blk_alloc ?_ _)); exact BK279.out⟩
             have n14_ : Aside0 (Below w.heap.size w (((((w91.setCell ⟨gb278, 0, none⟩ (.int .i64 t268)).setCell ⟨gb278, 1, none⟩ (.int .u64 t269)).setCell ⟨gb278, 2, none⟩ (.slice Ao100 t270.length co100)).setCell ⟨gb279, 0, none⟩ (.slice Ao101 t273.length co101)).setCell ⟨gb279, 1, none⟩ (.int .i64 t276))) := ⟨by repeat (first | (with_reducible first | exact HB.out | apply below_alloc | apply pw_below_drewN | apply below_drew1 | refine below_set ?_ GE239.out | refine below_set ?_ GE243.out | refine below_set ?_ GE254.out | refine below_set ?_ GE255.out | refine below_set ?_ GE266.out | refine below_set ?_ GE267.out | refine below_set ?_ GE278.out | refine below_set ?_ GE279.out) | exact HB.out)⟩
             (try clear HO248)
             (try clear HO251)
             (try clear HO260)
             (try clear HO263)
             (try clear HO272)
             (try clear HO275)
             (try clear BK239)
             (try clear BK243)
             (try clear BK254)
             (try clear BK255)
             (try clear BK266)
             (try clear BK267)
             (try clear BK278)
             (try clear BK279)
             (try clear HB)
             generalize (((((w91.setCell ⟨gb278, 0, none⟩ (.int .i64 t268)).setCell ⟨gb278, 1, none⟩ (.int .u64 t269)).setCell ⟨gb278, 2, none⟩ (.slice Ao100 t270.length co100)).setCell ⟨gb279, 0, none⟩ (.slice Ao101 t273.length co101)).setCell ⟨gb279, 1, none⟩ (.int .i64 t276)) = w109 at n0_ n1_ n2_ n3_ n4_ n5_ n6_ n7_ n8_ n9_ n10_ n11_ n12_ n13_ n14_ ⊢
             have HO248 := n0_
             have HO251 := n1_
             have HO260 := n2_
             have HO263 := n3_
             have HO272 := n4_
             have HO275 := n5_
             have BK239 := n6_
             have BK243 := n7_
             have BK254 := n8_
             have BK255 := n9_
             have BK266 := n10_
             have BK267 := n11_
             have BK278 := n12_
             have BK279 := n13_
             have HB := n14_
             clear n0_ n1_ n2_ n3_ n4_ n5_ n6_ n7_ n8_ n9_ n10_ n11_ n12_ n13_ n14_
             have n0_ := Aside0.mk (Kd.V_drew HO248.out)
             have n1_ := Aside0.mk (Kd.V_drew HO251.out)
             have n2_ := Aside0.mk (Kd.V_drew HO260.out)
             have n3_ := Aside0.mk (Kd.V_drew HO263.out)
             have n4_ := Aside0.mk (Kd.V_drew HO272.out)
             have n5_ := Aside0.mk (Kd.V_drew HO275.out)
             have n6_ := Aside0.mk (blk_drew BK239.out)
             have n7_ := Aside0.mk (blk_drew BK243.out)
             have n8_ := Aside0.mk (blk_drew BK254.out)
             have n9_ := Aside0.mk (blk_drew BK255.out)
             have n10_ := Aside0.mk (blk_drew BK266.out)
             have n11_ := Aside0.mk (blk_drew BK267.out)
             have n12_ := Aside0.mk (blk_drew BK278.out)
             have n13_ := Aside0.mk (blk_drew BK279.out)
             have n14_ := Aside0.mk (below_drew1 HB.out)
             clear HO248
             clear HO251
             clear HO260
             clear HO263
             clear HO272
             clear HO275
             clear BK239
             clear BK243
             clear BK254
             clear BK255
             clear BK266
             clear BK267
             clear BK278
             clear BK279
             clear HB
             have HO248 := n0_
             have HO251 := n1_
             have HO260 := n2_
             have HO263 := n3_
             have HO272 := n4_
             have HO275 := n5_
             have BK239 := n6_
             have BK243 := n7_
             have BK254 := n8_
             have BK255 := n9_
             have BK266 := n10_
             have BK267 := n11_
             have BK278 := n12_
             have BK279 := n13_
             have HB := n14_
             clear n0_ n1_ n2_ n3_ n4_ n5_ n6_ n7_ n8_ n9_ n10_ n11_ n12_ n13_ n14_
             refine start_ (n := 56) (S := fun w' => w'.cell? ⟨gb255, 0, none⟩ = some (.slice Ao62 t249.length co62) ∧ w'.cell? ⟨gb255, 1, none⟩ = some (.int .i64 t252) ∧ w'.cell? ⟨gb254, 0, none⟩ = some (.int .i64 t244) ∧ w'.cell? ⟨gb254, 1, none⟩ = some (.int .u64 t245) ∧ w'.cell? ⟨gb254, 2, none⟩ = some (.slice Ao60 t246.length co60) ∧ w'.cell? ⟨gb239, 0, none⟩ = some (.int .i64 a0_0) ∧ w'.cell? ⟨gb239, 1, none⟩ = some (.int .u64 a0_1) ∧ w'.cell? ⟨gb239, 2, none⟩ = some (.slice A0_2 l0_2.length c0_2) ∧ w'.cell? ⟨gb267, 0, none⟩ = some (.slice Ao80 t261.length co80) ∧ w'.cell? ⟨gb267, 1, none⟩ = some (.int .i64 t264) ∧ w'.cell? ⟨gb279, 0, none⟩ = some (.slice Ao101 t273.length co101) ∧ w'.cell? ⟨gb279, 1, none⟩ = some (.int .i64 t276) ∧ w'.cell? ⟨gb266, 0, none⟩ = some (.int .i64 t256) ∧ w'.cell? ⟨gb266, 1, none⟩ = some (.int .u64 t257) ∧ w'.cell? ⟨gb266, 2, none⟩ = some (.slice Ao78 t258.length co78) ∧ w'.cell? ⟨gb278, 0, none⟩ = some (.int .i64 t268) ∧ w'.cell? ⟨gb278, 1, none⟩ = some (.int .u64 t269) ∧ w'.cell? ⟨gb278, 2, none⟩ = some (.slice Ao100 t270.length co100)) (ds := []) #[false, false, false, false, false, false, false, false, false, false, false, false, false, false, false, false, false, false, false, false, false, false, false, false, false, false, false, false, false, false, false, false, false, false, false, false, false, false, false, false, false, false, false, false, false, false, false, false, false, false, false, false, false, false, false, false] (by kernel_rfl) rfl rfl ⟨(blk_cell BK255.out 0).trans rfl, (blk_cell BK255.out 1).trans rfl, (blk_cell BK254.out 0).trans rfl, (blk_cell BK254.out 1).trans rfl, (blk_cell BK254.out 2).trans rfl, (blk_cell BK239.out 0).trans rfl, (blk_cell BK239.out 1).trans rfl, (blk_cell BK239.out 2).trans rfl, (blk_cell BK267.out 0).trans rfl, (blk_cell BK267.out 1).trans rfl, (blk_cell BK279.out 0).trans rfl, (blk_cell BK279.out 1).trans rfl, (blk_cell BK266.out 0).trans rfl, (blk_cell BK266.out 1).trans rfl, (blk_cell BK266.out 2).trans rfl, (blk_cell BK278.out 0).trans rfl, (blk_cell BK278.out 1).trans rfl, (blk_cell BK278.out 2).trans rfl⟩ (fun hHeld => ?_); refine with_tabW samphirelaw17_SlotsFirst.tab7 samphirelaw17_SlotsFirst.bits7 (fun HT_ HW_ => ?_)
             generalize w109.drew = w110 at HO248 HO251 HO260 HO263 HO272 HO275 BK239 BK243 BK254 BK255 BK266 BK267 BK278 BK279 HB hHeld ⊢
             refine pure_ (i := 0) (N := some 69) (v := ?_) (a' := ?_) #[true, false, false, false, false, false, false, false, false, false, false, false, false, false, false, false, false, false, false, false, false, false, false, false, false, false, false, false, false, false, false, false, false, false, false, false, false, false, false, false, false, false, false, false, false, false, false, false, false, false, false, false, false, false, false, false] rfl rfl (any_of HT_.out (by kernel_rfl)) (fun _ _ _ h => h) (Or.inl ⟨by rfl, ?_⟩) ?_ ?_
             rotate_left
             ·
              intro w'
              go_simp
              with_reducible rfl
             rotate_left
             ·
              simp only [Act.put, List.setIfInBounds_toArray, List.set_cons_zero, List.set_cons_succ, i64_w, i32_w]
              rfl
             refine pure_ (i := 1) (N := some 70) (v := ?_) (a' := ?_) #[true, true, false, false, false, false, false, false, false, false, false, false, false, false, false, false, false, false, false, false, false, false, false, false, false, false, false, false, false, false, false, false, false, false, false, false, false, false, false, false, false, false, false, false, false, false, false, false, false, false, false, false, false, false, false, false] rfl rfl (any_of HT_.out (by kernel_rfl)) (fun _ _ _ h => h) (Or.inl ⟨by rfl, ?_⟩) ?_ ?_
             rotate_left
             ·
              intro w'
              go_simp
              with_reducible rfl
             rotate_left
             ·
              simp only [Act.put, List.setIfInBounds_toArray, List.set_cons_zero, List.set_cons_succ, i64_w, i32_w]
              rfl
             refine pure_ (i := 2) (N := some 71) (v := ?_) (a' := ?_) #[true, true, true, false, false, false, false, false, false, false, false, false, false, false, false, false, false, false, false, false, false, false, false, false, false, false, false, false, false, false, false, false, false, false, false, false, false, false, false, false, false, false, false, false, false, false, false, false, false, false, false, false, false, false, false, false] rfl rfl (any_of HT_.out (by kernel_rfl)) (fun _ _ _ h => h) (Or.inl ⟨by rfl, ?_⟩) ?_ ?_
             rotate_left
             ·
              intro w'
              go_simp
              with_reducible rfl
             rotate_left
             ·
              simp only [Act.put, List.setIfInBounds_toArray, List.set_cons_zero, List.set_cons_succ, i64_w, i32_w]
              rfl
             refine pure_ (i := 3) (N := some 72) (v := ?_) (a' := ?_) #[true, true, true, true, false, false, false, false, false, false, false, false, false, false, false, false, false, false, false, false, false, false, false, false, false, false, false, false, false, false, false, false, false, false, false, false, false, false, false, false, false, false, false, false, false, false, false, false, false, false, false, false, false, false, false, false] rfl rfl (any_of HT_.out (by kernel_rfl)) (fun _ _ _ h => h) (Or.inl ⟨by rfl, ?_⟩) ?_ ?_
             rotate_left
             ·
              intro w'
              go_simp
              with_reducible rfl
             rotate_left
             ·
              simp only [Act.put, List.setIfInBounds_toArray, List.set_cons_zero, List.set_cons_succ, i64_w, i32_w]
              rfl
             refine take_ (i := 4) (N := some 73) (v := ?_) (a' := ?_) #[true, true, true, true, true, false, false, false, false, false, false, false, false, false, false, false, false, false, false, false, false, false, false, false, false, false, false, false, false, false, false, false, false, false, false, false, false, false, false, false, false, false, false, false, false, false, false, false, false, false, false, false, false, false, false, false] rfl rfl (take_ofW HT_.out HW_.out (by kernel_rfl)) (fun _ _ _ h => h) (Or.inl ⟨by rfl, ?_⟩) hHeld ?_ ?_
             rotate_left
             ·
              rintro w' ⟨s0, s1, s2, s3, s4, s5, s6, s7, s8, s9, s10, s11, s12, s13, s14, s15, s16, s17⟩
              go_simp
              with_reducible rfl
             rotate_left
             ·
              simp only [Act.put, List.setIfInBounds_toArray, List.set_cons_zero, List.set_cons_succ, i64_w, i32_w]
              rfl
             refine pure_ (i := 5) (N := some 74) (v := ?_) (a' := ?_) #[true, true, true, true, true, true, false, false, false, false, false, false, false, false, false, false, false, false, false, false, false, false, false, false, false, false, false, false, false, false, false, false, false, false, false, false, false, false, false, false, false, false, false, false, false, false, false, false, false, false, false, false, false, false, false, false] rfl rfl (any_of HT_.out (by kernel_rfl)) (fun _ _ _ h => h) (Or.inl ⟨by rfl, ?_⟩) ?_ ?_
             rotate_left
             ·
              intro w'
              go_simp
              with_reducible rfl
             rotate_left
             ·
              simp only [Act.put, List.setIfInBounds_toArray, List.set_cons_zero, List.set_cons_succ, i64_w, i32_w]
              rfl
             refine pure_ (i := 6) (N := some 75) (v := ?_) (a' := ?_) #[true, true, true, true, true, true, true, false, false, false, false, false, false, false, false, false, false, false, false, false, false, false, false, false, false, false, false, false, false, false, false, false, false, false, false, false, false, false, false, false, false, false, false, false, false, false, false, false, false, false, false, false, false, false, false, false] rfl rfl (any_of HT_.out (by kernel_rfl)) (fun _ _ _ h => h) (Or.inl ⟨by rfl, ?_⟩) ?_ ?_
             rotate_left
             ·
              intro w'
              go_simp
              with_reducible rfl
             rotate_left
             ·
              simp only [Act.put, List.setIfInBounds_toArray, List.set_cons_zero, List.set_cons_succ, i64_w, i32_w]
              rfl
             refine pure_ (i := 7) (N := some 76) (v := ?_) (a' := ?_) #[true, true, true, true, true, true, true, true, false, false, false, false, false, false, false, false, false, false, false, false, false, false, false, false, false, false, false, false, false, false, false, false, false, false, false, false, false, false, false, false, false, false, false, false, false, false, false, false, false, false, false, false, false, false, false, false] rfl rfl (any_of HT_.out (by kernel_rfl)) (fun _ _ _ h => h) (Or.inl ⟨by rfl, ?_⟩) ?_ ?_
             rotate_left
             ·
              intro w'
              go_simp
              with_reducible rfl
             rotate_left
             ·
              simp only [Act.put, List.setIfInBounds_toArray, List.set_cons_zero, List.set_cons_succ, i64_w, i32_w]
              rfl
             refine pure_ (i := 8) (N := some 77) (v := ?_) (a' := ?_) #[true, true, true, true, true, true, true, true, true, false, false, false, false, false, false, false, false, false, false, false, false, false, false, false, false, false, false, false, false, false, false, false, false, false, false, false, false, false, false, false, false, false, false, false, false, false, false, false, false, false, false, false, false, false, false, false] rfl rfl (any_of HT_.out (by kernel_rfl)) (fun _ _ _ h => h) (Or.inl ⟨by rfl, ?_⟩) ?_ ?_
             rotate_left
             ·
              intro w'
              go_simp
              with_reducible rfl
             rotate_left
             ·
              simp only [Act.put, List.setIfInBounds_toArray, List.set_cons_zero, List.set_cons_succ, i64_w, i32_w]
              rfl
             refine pure_ (i := 10) (N := some 79) (v := ?_) (a' := ?_) #[true, true, true, true, true, true, true, true, true, false, true, false, false, false, false, false, false, false, false, false, false, false, false, false, false, false, false, false, false, false, false, false, false, false, false, false, false, false, false, false, false, false, false, false, false, false, false, false, false, false, false, false, false, false, false, false] rfl rfl (any_of HT_.out (by kernel_rfl)) (fun _ _ _ h => h) (Or.inl ⟨by rfl, ?_⟩) ?_ ?_
             rotate_left
             ·
              intro w'
              go_simp
              with_reducible rfl
             rotate_left
             ·
              simp only [Act.put, List.setIfInBounds_toArray, List.set_cons_zero, List.set_cons_succ, i64_w, i32_w]
              rfl
             refine pure_ (i := 12) (N := some 81) (v := ?_) (a' := ?_) #[true, true, true, true, true, true, true, true, true, false, true, false, true, false, false, false, false, false, false, false, false, false, false, false, false, false, false, false, false, false, false, false, false, false, false, false, false, false, false, false, false, false, false, false, false, false, false, false, false, false, false, false, false, false, false, false] rfl rfl (any_of HT_.out (by kernel_rfl)) (fun _ _ _ h => h) (Or.inl ⟨by rfl, ?_⟩) ?_ ?_
             rotate_left
             ·
              intro w'
              go_simp
              with_reducible rfl
             rotate_left
             ·
              simp only [Act.put, List.setIfInBounds_toArray, List.set_cons_zero, List.set_cons_succ, i64_w, i32_w]
              rfl
             refine take_ (i := 9) (N := some 78) (v := ?_) (a' := ?_) #[true, true, true, true, true, true, true, true, true, true, true, false, true, false, false, false, false, false, false, false, false, false, false, false, false, false, false, false, false, false, false, false, false, false, false, false, false, false, false, false, false, false, false, false, false, false, false, false, false, false, false, false, false, false, false, false] rfl rfl (take_ofW HT_.out HW_.out (by kernel_rfl)) (fun _ _ _ h => h) (Or.inl ⟨by rfl, ?_⟩) hHeld ?_ ?_
             rotate_left
             ·
              rintro w' ⟨s0, s1, s2, s3, s4, s5, s6, s7, s8, s9, s10, s11, s12, s13, s14, s15, s16, s17⟩
              go_simp
              with_reducible rfl
             rotate_left
             ·
              simp only [Act.put, List.setIfInBounds_toArray, List.set_cons_zero, List.set_cons_succ, i64_w, i32_w]
              rfl
             refine take_ (i := 13) (N := some 82) (v := ?_) (a' := ?_) #[true, true, true, true, true, true, true, true, true, true, true, false, true, true, false, false, false, false, false, false, false, false, false, false, false, false, false, false, false, false, false, false, false, false, false, false, false, false, false, false, false, false, false, false, false, false, false, false, false, false, false, false, false, false, false, false] rfl rfl (take_ofW HT_.out HW_.out (by kernel_rfl)) (fun _ _ _ h => h) (Or.inl ⟨by rfl, ?_⟩) hHeld ?_ ?_
             rotate_left
             ·
              rintro w' ⟨s0, s1, s2, s3, s4, s5, s6, s7, s8, s9, s10, s11, s12, s13, s14, s15, s16, s17⟩
              go_simp
              with_reducible rfl
             rotate_left
             ·
              simp only [Act.put, List.setIfInBounds_toArray, List.set_cons_zero, List.set_cons_succ, i64_w, i32_w]
              rfl
             refine one_ (i := 11) (N := some 80) #[true, true, true, true, true, true, true, true, true, true, true, true, true, true, false, false, false, false, false, false, false, false, false, false, false, false, false, false, false, false, false, false, false, false, false, false, false, false, false, false, false, false, false, false, false, false, false, false, false, false, false, false, false, false, false, false] rfl rfl (one_of HT_.out (by kernel_rfl)) (by decide) (fun K hK => ?_)
             refine goes_ Try.func14 (by kernel_rfl) rfl #[.slice Ao60 t246.length co60, .string a1] (by rfl) rfl rfl (by (try simp only [List.map_toArray, List.map_cons, List.map_nil]); first | done | rfl | (simp only [List.length_drop, List.length_take]; rfl)) ?_
             with_reducible refine (samphireref16_Count.calls kj3 _ _ t246 a1 t280 _ ?side1 ?side2 A32.out).mono ?_
             (case side1 => repeat (first | exact (Kd.V_reads' HO248.out).2.2 | (with_reducible refine Kd.C_alloc ?_ _) | (with_reducible refine Kd.C_drewN ?_ _) | (with_reducible refine Kd.C_drew ?_)))
             (case side2 => exact (Kd.V_reads' HO248.out).2.1)
             rintro e w' ⟨rfl, ⟨nd, rfl⟩⟩
             refine ⟨_, rfl, ?_⟩
             refine hK.out _ _ ⟨(blk_cell BK255.out 0).trans rfl, (blk_cell BK255.out 1).trans rfl, (blk_cell BK254.out 0).trans rfl, (blk_cell BK254.out 1).trans rfl, (blk_cell BK254.out 2).trans rfl, (blk_cell BK239.out 0).trans rfl, (blk_cell BK239.out 1).trans rfl, (blk_cell BK239.out 2).trans rfl, (blk_cell BK267.out 0).trans rfl, (blk_cell BK267.out 1).trans rfl, (blk_cell BK279.out 0).trans rfl, (blk_cell BK279.out 1).trans rfl, (blk_cell BK266.out 0).trans rfl, (blk_cell BK266.out 1).trans rfl, (blk_cell BK266.out 2).trans rfl, (blk_cell BK278.out 0).trans rfl, (blk_cell BK278.out 1).trans rfl, (blk_cell BK278.out 2).trans rfl⟩ (fun hHeld => ?_)
             clear hK K
             refine norm_ (a' := ?_) ?_ ?_
             rotate_left
             ·
              show Act.put _ (some 80) _ = _
              simp only [Act.put, List.setIfInBounds_toArray, List.set_cons_zero, List.set_cons_succ, i64_w, i32_w]
              rfl
             refine pure_ (i := 14) (N := some 83) (v := ?_) (a' := ?_) #[true, true, true, true, true, true, true, true, true, true, true, true, true, true, true, false, false, false, false, false, false, false, false, false, false, false, false, false, false, false, false, false, false, false, false, false, false, false, false, false, false, false, false, false, false, false, false, false, false, false, false, false, false, false, false, false] rfl rfl (any_of HT_.out (by kernel_rfl)) (fun _ _ _ h => h) (Or.inl ⟨by rfl, ?_⟩) ?_ ?_
             rotate_left
             ·
              intro w'
              go_simp
              with_reducible rfl
             rotate_left
             ·
              simp only [Act.put, List.setIfInBounds_toArray, List.set_cons_zero, List.set_cons_succ, i64_w, i32_w]
              rfl
             refine pure_ (i := 15) (N := some 84) (v := ?_) (a' := ?_) #[true, true, true, true, true, true, true, true, true, true, true, true, true, true, true, true, false, false, false, false, false, false, false, false, false, false, false, false, false, false, false, false, false, false, false, false, false, false, false, false, false, false, false, false, false, false, false, false, false, false, false, false, false, false, false, false] rfl rfl (any_of HT_.out (by kernel_rfl)) (fun _ _ _ h => h) (Or.inl ⟨by rfl, ?_⟩) ?_ ?_
             rotate_left
             ·
              intro w'
              go_simp
              with_reducible rfl
             rotate_left
             ·
              simp only [Act.put, List.setIfInBounds_toArray, List.set_cons_zero, List.set_cons_succ, i64_w, i32_w]
              rfl
             refine pure_ (i := 16) (N := some 85) (v := ?_) (a' := ?_) #[true, true, true, true, true, true, true, true, true, true, true, true, true, true, true, true, true, false, false, false, false, false, false, false, false, false, false, false, false, false, false, false, false, false, false, false, false, false, false, false, false, false, false, false, false, false, false, false, false, false, false, false, false, false, false, false] rfl rfl (any_of HT_.out (by kernel_rfl)) (fun _ _ _ h => h) (Or.inl ⟨by rfl, ?_⟩) ?_ ?_
             rotate_left
             ·
              intro w'
              go_simp
              with_reducible rfl
             rotate_left
             ·
              simp only [Act.put, List.setIfInBounds_toArray, List.set_cons_zero, List.set_cons_succ, i64_w, i32_w]
              rfl
             refine pure_ (i := 17) (N := some 86) (v := ?_) (a' := ?_) #[true, true, true, true, true, true, true, true, true, true, true, true, true, true, true, true, true, true, false, false, false, false, false, false, false, false, false, false, false, false, false, false, false, false, false, false, false, false, false, false, false, false, false, false, false, false, false, false, false, false, false, false, false, false, false, false] rfl rfl (any_of HT_.out (by kernel_rfl)) (fun _ _ _ h => h) (Or.inl ⟨by rfl, ?_⟩) ?_ ?_
             rotate_left
             ·
              intro w'
              go_simp
              with_reducible rfl
             rotate_left
             ·
              simp only [Act.put, List.setIfInBounds_toArray, List.set_cons_zero, List.set_cons_succ, i64_w, i32_w]
              rfl
             refine pure_ (i := 19) (N := some 88) (v := ?_) (a' := ?_) #[true, true, true, true, true, true, true, true, true, true, true, true, true, true, true, true, true, true, false, true, false, false, false, false, false, false, false, false, false, false, false, false, false, false, false, false, false, false, false, false, false, false, false, false, false, false, false, false, false, false, false, false, false, false, false, false] rfl rfl (any_of HT_.out (by kernel_rfl)) (fun _ _ _ h => h) (Or.inl ⟨by rfl, ?_⟩) ?_ ?_
             rotate_left
             ·
              intro w'
              go_simp
              with_reducible rfl
             rotate_left
             ·
              simp only [Act.put, List.setIfInBounds_toArray, List.set_cons_zero, List.set_cons_succ, i64_w, i32_w]
              rfl
             refine take_ (i := 18) (N := some 87) (v := ?_) (a' := ?_) #[true, true, true, true, true, true, true, true, true, true, true, true, true, true, true, true, true, true, true, true, false, false, false, false, false, false, false, false, false, false, false, false, false, false, false, false, false, false, false, false, false, false, false, false, false, false, false, false, false, false, false, false, false, false, false, false] rfl rfl (take_ofW HT_.out HW_.out (by kernel_rfl)) (fun _ _ _ h => h) (Or.inl ⟨by rfl, ?_⟩) hHeld ?_ ?_
             rotate_left
             ·
              rintro w' ⟨s0, s1, s2, s3, s4, s5, s6, s7, s8, s9, s10, s11, s12, s13, s14, s15, s16, s17⟩
              go_simp
              with_reducible rfl
             rotate_left
             ·
              simp only [Act.put, List.setIfInBounds_toArray, List.set_cons_zero, List.set_cons_succ, i64_w, i32_w]
              rfl
             refine pure_ (i := 20) (N := some 89) (v := ?_) (a' := ?_) #[true, true, true, true, true, true, true, true, true, true, true, true, true, true, true, true, true, true, true, true, true, false, false, false, false, false, false, false, false, false, false, false, false, false, false, false, false, false, false, false, false, false, false, false, false, false, false, false, false, false, false, false, false, false, false, false] rfl rfl (any_of HT_.out (by kernel_rfl)) (fun _ _ _ h => h) (Or.inl ⟨by rfl, ?_⟩) ?_ ?_
             rotate_left
             ·
              intro w'
              go_simp
              with_reducible rfl
             rotate_left
             ·
              simp only [Act.put, List.setIfInBounds_toArray, List.set_cons_zero, List.set_cons_succ, i64_w, i32_w]
              rfl
             refine pure_ (i := 21) (N := some 90) (v := ?_) (a' := ?_) #[true, true, true, true, true, true, true, true, true, true, true, true, true, true, true, true, true, true, true, true, true, true, false, false, false, false, false, false, false, false, false, false, false, false, false, false, false, false, false, false, false, false, false, false, false, false, false, false, false, false, false, false, false, false, false, false] rfl rfl (any_of HT_.out (by kernel_rfl)) (fun _ _ _ h => h) (Or.inl ⟨by rfl, ?_⟩) ?_ ?_
             rotate_left
             ·
              intro w'
              go_simp
              with_reducible rfl
             rotate_left
             ·
              simp only [Act.put, List.setIfInBounds_toArray, List.set_cons_zero, List.set_cons_succ, i64_w, i32_w]
              rfl
             refine pure_ (i := 22) (N := some 91) (v := ?_) (a' := ?_) #[true, true, true, true, true, true, true, true, true, true, true, true, true, true, true, true, true, true, true, true, true, true, true, false, false, false, false, false, false, false, false, false, false, false, false, false, false, false, false, false, false, false, false, false, false, false, false, false, false, false, false, false, false, false, false, false] rfl rfl (any_of HT_.out (by kernel_rfl)) (fun _ _ _ h => h) (Or.inl ⟨by rfl, ?_⟩) ?_ ?_
             rotate_left
             ·
              intro w'
              go_simp
              with_reducible rfl
             rotate_left
             ·
              simp only [Act.put, List.setIfInBounds_toArray, List.set_cons_zero, List.set_cons_succ, i64_w, i32_w]
              rfl
             refine pure_ (i := 23) (N := some 92) (v := ?_) (a' := ?_) #[true, true, true, true, true, true, true, true, true, true, true, true, true, true, true, true, true, true, true, true, true, true, true, true, false, false, false, false, false, false, false, false, false, false, false, false, false, false, false, false, false, false, false, false, false, false, false, false, false, false, false, false, false, false, false, false] rfl rfl (any_of HT_.out (by kernel_rfl)) (fun _ _ _ h => h) (Or.inl ⟨by rfl, ?_⟩) ?_ ?_
             rotate_left
             ·
              intro w'
              go_simp
              with_reducible rfl
             rotate_left
             ·
              simp only [Act.put, List.setIfInBounds_toArray, List.set_cons_zero, List.set_cons_succ, i64_w, i32_w]
              rfl
             refine pure_ (i := 24) (N := some 93) (v := ?_) (a' := ?_) #[true, true, true, true, true, true, true, true, true, true, true, true, true, true, true, true, true, true, true, true, true, true, true, true, true, false, false, false, false, false, false, false, false, false, false, false, false, false, false, false, false, false, false, false, false, false, false, false, false, false, false, false, false, false, false, false] rfl rfl (any_of HT_.out (by kernel_rfl)) (fun _ _ _ h => h) (Or.inl ⟨by rfl, ?_⟩) ?_ ?_
             rotate_left
             ·
              intro w'
              go_simp
              with_reducible rfl
             rotate_left
             ·
              simp only [Act.put, List.setIfInBounds_toArray, List.set_cons_zero, List.set_cons_succ, i64_w, i32_w]
              rfl
             refine pure_ (i := 25) (N := some 94) (v := ?_) (a' := ?_) #[true, true, true, true, true, true, true, true, true, true, true, true, true, true, true, true, true, true, true, true, true, true, true, true, true, true, false, false, false, false, false, false, false, false, false, false, false, false, false, false, false, false, false, false, false, false, false, false, false, false, false, false, false, false, false, false] rfl rfl (any_of HT_.out (by kernel_rfl)) (fun _ _ _ h => h) (Or.inl ⟨by rfl, ?_⟩) ?_ ?_
             rotate_left
             ·
              intro w'
              go_simp
              with_reducible rfl
             rotate_left
             ·
              simp only [Act.put, List.setIfInBounds_toArray, List.set_cons_zero, List.set_cons_succ, i64_w, i32_w]
              rfl
             refine pure_ (i := 26) (N := some 95) (v := ?_) (a' := ?_) #[true, true, true, true, true, true, true, true, true, true, true, true, true, true, true, true, true, true, true, true, true, true, true, true, true, true, true, false, false, false, false, false, false, false, false, false, false, false, false, false, false, false, false, false, false, false, false, false, false, false, false, false, false, false, false, false] rfl rfl (any_of HT_.out (by kernel_rfl)) (fun _ _ _ h => h) (Or.inl ⟨by rfl, ?_⟩) ?_ ?_
             rotate_left
             ·
              intro w'
              go_simp
              with_reducible rfl
             rotate_left
             ·
              simp only [Act.put, List.setIfInBounds_toArray, List.set_cons_zero, List.set_cons_succ, i64_w, i32_w]
              rfl
             refine pure_ (i := 27) (N := some 96) (v := ?_) (a' := ?_) #[true, true, true, true, true, true, true, true, true, true, true, true, true, true, true, true, true, true, true, true, true, true, true, true, true, true, true, true, false, false, false, false, false, false, false, false, false, false, false, false, false, false, false, false, false, false, false, false, false, false, false, false, false, false, false, false] rfl rfl (any_of HT_.out (by kernel_rfl)) (fun _ _ _ h => h) (Or.inl ⟨by rfl, ?_⟩) ?_ ?_
             rotate_left
             ·
              intro w'
              go_simp
              with_reducible rfl
             rotate_left
             ·
              simp only [Act.put, List.setIfInBounds_toArray, List.set_cons_zero, List.set_cons_succ, i64_w, i32_w]
              rfl
             refine pure_ (i := 28) (N := some 97) (v := ?_) (a' := ?_) #[true, true, true, true, true, true, true, true, true, true, true, true, true, true, true, true, true, true, true, true, true, true, true, true, true, true, true, true, true, false, false, false, false, false, false, false, false, false, false, false, false, false, false, false, false, false, false, false, false, false, false, false, false, false, false, false] rfl rfl (any_of HT_.out (by kernel_rfl)) (fun _ _ _ h => h) (Or.inl ⟨by rfl, ?_⟩) ?_ ?_
             rotate_left
             ·
              intro w'
              go_simp
              with_reducible rfl
             rotate_left
             ·
              simp only [Act.put, List.setIfInBounds_toArray, List.set_cons_zero, List.set_cons_succ, i64_w, i32_w]
              rfl
             refine pure_ (i := 29) (N := some 98) (v := ?_) (a' := ?_) #[true, true, true, true, true, true, true, true, true, true, true, true, true, true, true, true, true, true, true, true, true, true, true, true, true, true, true, true, true, true, false, false, false, false, false, false, false, false, false, false, false, false, false, false, false, false, false, false, false, false, false, false, false, false, false, false] rfl rfl (any_of HT_.out (by kernel_rfl)) (fun _ _ _ h => h) (Or.inl ⟨by rfl, ?_⟩) ?_ ?_
             rotate_left
             ·
              intro w'
              go_simp
              with_reducible rfl
             rotate_left
             ·
              simp only [Act.put, List.setIfInBounds_toArray, List.set_cons_zero, List.set_cons_succ, i64_w, i32_w]
              rfl
             refine pure_ (i := 30) (N := some 99) (v := ?_) (a' := ?_) #[true, true, true, true, true, true, true, true, true, true, true, true, true, true, true, true, true, true, true, true, true, true, true, true, true, true, true, true, true, true, true, false, false, false, false, false, false, false, false, false, false, false, false, false, false, false, false, false, false, false, false, false, false, false, false, false] rfl rfl (any_of HT_.out (by kernel_rfl)) (fun _ _ _ h => h) (Or.inl ⟨by rfl, ?_⟩) ?_ ?_
             rotate_left
             ·
              intro w'
              go_simp
              with_reducible rfl
             rotate_left
             ·
              simp only [Act.put, List.setIfInBounds_toArray, List.set_cons_zero, List.set_cons_succ, i64_w, i32_w]
              rfl
             refine pure_ (i := 31) (N := some 100) (v := ?_) (a' := ?_) #[true, true, true, true, true, true, true, true, true, true, true, true, true, true, true, true, true, true, true, true, true, true, true, true, true, true, true, true, true, true, true, true, false, false, false, false, false, false, false, false, false, false, false, false, false, false, false, false, false, false, false, false, false, false, false, false] rfl rfl (any_of HT_.out (by kernel_rfl)) (fun _ _ _ h => h) (Or.inl ⟨by rfl, ?_⟩) ?_ ?_
             rotate_left
             ·
              intro w'
              go_simp
              with_reducible rfl
             rotate_left
             ·
              simp only [Act.put, List.setIfInBounds_toArray, List.set_cons_zero, List.set_cons_succ, i64_w, i32_w]
              rfl
             refine pure_ (i := 33) (N := some 102) (v := ?_) (a' := ?_) #[true, true, true, true, true, true, true, true, true, true, true, true, true, true, true, true, true, true, true, true, true, true, true, true, true, true, true, true, true, true, true, true, false, true, false, false, false, false, false, false, false, false, false, false, false, false, false, false, false, false, false, false, false, false, false, false] rfl rfl (any_of HT_.out (by kernel_rfl)) (fun _ _ _ h => h) (Or.inl ⟨by rfl, ?_⟩) ?_ ?_
             rotate_left
             ·
              intro w'
              go_simp
              with_reducible rfl
             rotate_left
             ·
              simp only [Act.put, List.setIfInBounds_toArray, List.set_cons_zero, List.set_cons_succ, i64_w, i32_w]
              rfl
             refine take_ (i := 32) (N := some 101) (v := ?_) (a' := ?_) #[true, true, true, true, true, true, true, true, true, true, true, true, true, true, true, true, true, true, true, true, true, true, true, true, true, true, true, true, true, true, true, true, true, true, false, false, false, false, false, false, false, false, false, false, false, false, false, false, false, false, false, false, false, false, false, false] rfl rfl (take_ofW HT_.out HW_.out (by kernel_rfl)) (fun _ _ _ h => h) (Or.inl ⟨by rfl, ?_⟩) hHeld ?_ ?_
             rotate_left
             ·
              rintro w' ⟨s0, s1, s2, s3, s4, s5, s6, s7, s8, s9, s10, s11, s12, s13, s14, s15, s16, s17⟩
              go_simp
              with_reducible rfl
             rotate_left
             ·
              simp only [Act.put, List.setIfInBounds_toArray, List.set_cons_zero, List.set_cons_succ, i64_w, i32_w]
              rfl
             refine take_ (i := 34) (N := some 103) (v := ?_) (a' := ?_) #[true, true, true, true, true, true, true, true, true, true, true, true, true, true, true, true, true, true, true, true, true, true, true, true, true, true, true, true, true, true, true, true, true, true, true, false, false, false, false, false, false, false, false, false, false, false, false, false, false, false, false, false, false, false, false, false] rfl rfl (take_ofW HT_.out HW_.out (by kernel_rfl)) (fun _ _ _ h => h) (Or.inl ⟨by rfl, ?_⟩) hHeld ?_ ?_
             rotate_left
             ·
              rintro w' ⟨s0, s1, s2, s3, s4, s5, s6, s7, s8, s9, s10, s11, s12, s13, s14, s15, s16, s17⟩
              go_simp
              with_reducible rfl
             rotate_left
             ·
              simp only [Act.put, List.setIfInBounds_toArray, List.set_cons_zero, List.set_cons_succ, i64_w, i32_w]
              rfl
             refine pure_ (i := 35) (N := some 104) (v := ?_) (a' := ?_) #[true, true, true, true, true, true, true, true, true, true, true, true, true, true, true, true, true, true, true, true, true, true, true, true, true, true, true, true, true, true, true, true, true, true, true, true, false, false, false, false, false, false, false, false, false, false, false, false, false, false, false, false, false, false, false, false] rfl rfl (any_of HT_.out (by kernel_rfl)) (fun _ _ _ h => h) (Or.inl ⟨by rfl, ?_⟩) ?_ ?_
             rotate_left
             ·
              intro w'
              go_simp
              with_reducible rfl
             rotate_left
             ·
              simp only [Act.put, List.setIfInBounds_toArray, List.set_cons_zero, List.set_cons_succ, i64_w, i32_w]
              rfl
             refine pure_ (i := 36) (N := some 105) (v := ?_) (a' := ?_) #[true, true, true, true, true, true, true, true, true, true, true, true, true, true, true, true, true, true, true, true, true, true, true, true, true, true, true, true, true, true, true, true, true, true, true, true, true, false, false, false, false, false, false, false, false, false, false, false, false, false, false, false, false, false, false, false] rfl rfl (any_of HT_.out (by kernel_rfl)) (fun _ _ _ h => h) (Or.inl ⟨by rfl, ?_⟩) ?_ ?_
             rotate_left
             ·
              intro w'
              go_simp
              with_reducible rfl
             rotate_left
             ·
              simp only [Act.put, List.setIfInBounds_toArray, List.set_cons_zero, List.set_cons_succ, i64_w, i32_w]
              rfl
             refine pure_ (i := 37) (N := some 106) (v := ?_) (a' := ?_) #[true, true, true, true, true, true, true, true, true, true, true, true, true, true, true, true, true, true, true, true, true, true, true, true, true, true, true, true, true, true, true, true, true, true, true, true, true, true, false, false, false, false, false, false, false, false, false, false, false, false, false, false, false, false, false, false] rfl rfl (any_of HT_.out (by kernel_rfl)) (fun _ _ _ h => h) (Or.inl ⟨by rfl, ?_⟩) ?_ ?_
             rotate_left
             ·
              intro w'
              go_simp
              with_reducible rfl
             rotate_left
             ·
              simp only [Act.put, List.setIfInBounds_toArray, List.set_cons_zero, List.set_cons_succ, i64_w, i32_w]
              rfl
             refine pure_ (i := 38) (N := some 107) (v := ?_) (a' := ?_) #[true, true, true, true, true, true, true, true, true, true, true, true, true, true, true, true, true, true, true, true, true, true, true, true, true, true, true, true, true, true, true, true, true, true, true, true, true, true, true, false, false, false, false, false, false, false, false, false, false, false, false, false, false, false, false, false] rfl rfl (any_of HT_.out (by kernel_rfl)) (fun _ _ _ h => h) (Or.inl ⟨by rfl, ?_⟩) ?_ ?_
             rotate_left
             ·
              intro w'
              go_simp
              with_reducible rfl
             rotate_left
             ·
              simp only [Act.put, List.setIfInBounds_toArray, List.set_cons_zero, List.set_cons_succ, i64_w, i32_w]
              rfl
             refine take_ (i := 39) (N := some 108) (v := ?_) (a' := ?_) #[true, true, true, true, true, true, true, true, true, true, true, true, true, true, true, true, true, true, true, true, true, true, true, true, true, true, true, true, true, true, true, true, true, true, true, true, true, true, true, true, false, false, false, false, false, false, false, false, false, false, false, false, false, false, false, false] rfl rfl (take_ofW HT_.out HW_.out (by kernel_rfl)) (fun _ _ _ h => h) (Or.inl ⟨by rfl, ?_⟩) hHeld ?_ ?_
             rotate_left
             ·
              rintro w' ⟨s0, s1, s2, s3, s4, s5, s6, s7, s8, s9, s10, s11, s12, s13, s14, s15, s16, s17⟩
              go_simp
              with_reducible rfl
             rotate_left
             ·
              simp only [Act.put, List.setIfInBounds_toArray, List.set_cons_zero, List.set_cons_succ, i64_w, i32_w]
              rfl
             refine take_ (i := 41) (N := some 110) (v := ?_) (a' := ?_) #[true, true, true, true, true, true, true, true, true, true, true, true, true, true, true, true, true, true, true, true, true, true, true, true, true, true, true, true, true, true, true, true, true, true, true, true, true, true, true, true, false, true, false, false, false, false, false, false, false, false, false, false, false, false, false, false] rfl rfl (take_ofW HT_.out HW_.out (by kernel_rfl)) (fun _ _ _ h => h) (Or.inl ⟨by rfl, ?_⟩) hHeld ?_ ?_
             rotate_left
             ·
              rintro w' ⟨s0, s1, s2, s3, s4, s5, s6, s7, s8, s9, s10, s11, s12, s13, s14, s15, s16, s17⟩
              go_simp
              with_reducible rfl
             rotate_left
             ·
              simp only [Act.put, List.setIfInBounds_toArray, List.set_cons_zero, List.set_cons_succ, i64_w, i32_w]
              rfl
             refine one_ (i := 40) (N := some 109) #[true, true, true, true, true, true, true, true, true, true, true, true, true, true, true, true, true, true, true, true, true, true, true, true, true, true, true, true, true, true, true, true, true, true, true, true, true, true, true, true, true, true, false, false, false, false, false, false, false, false, false, false, false, false, false, false] rfl rfl (one_of HT_.out (by kernel_rfl)) (by decide) (fun K hK => ?_)
             refine goes_ Try.func12 (by kernel_rfl) rfl #[.agg #[.int .i64 t256, .int .u64 t257, .slice Ao78 t258.length co78]] (by rfl) rfl rfl (by (try simp only [List.map_toArray, List.map_cons, List.map_nil]); first | done | rfl | (simp only [List.length_drop, List.length_take]; rfl)) ?_
             with_reducible refine (samphirelaw17_ref.calls t256 t257 (fun k_ => (k_ ≠ gb239 ∧ (k_ ≠ gb243 ∧ (k_ ≠ gb254 ∧ (k_ ≠ gb255 ∧ (k_ ≠ gb266 ∧ (k_ ≠ gb267 ∧ (k_ ≠ gb278 ∧ k_ ≠ gb279)))))))) _ _ t258 t281 t282 t283 _ ?side1 A38.out).mono ?_
             (case side1 => exact HO260.out)
             rintro e w111 ⟨v284, rfl, ho0, hb⟩
             refine ⟨_, rfl, ?_⟩
             have n0_ := Aside0.mk (Kd.V_below (by (with_reducible repeat (first | apply Kd.V_alloc | apply Kd.V_drewN | apply Kd.V_drew)); exact HO248.out) hb)
             have n1_ := Aside0.mk (Kd.V_below (by (with_reducible repeat (first | apply Kd.V_alloc | apply Kd.V_drewN | apply Kd.V_drew)); exact HO251.out) hb)
             have n2_ := Aside0.mk (Kd.V_below (by (with_reducible repeat (first | apply Kd.V_alloc | apply Kd.V_drewN | apply Kd.V_drew)); exact HO260.out) hb)
             have n3_ := Aside0.mk (Kd.V_below (by (with_reducible repeat (first | apply Kd.V_alloc | apply Kd.V_drewN | apply Kd.V_drew)); exact HO263.out) hb)
             have n4_ := Aside0.mk (Kd.V_below (by (with_reducible repeat (first | apply Kd.V_alloc | apply Kd.V_drewN | apply Kd.V_drew)); exact HO272.out) hb)
             have n5_ := Aside0.mk (Kd.V_below (by (with_reducible repeat (first | apply Kd.V_alloc | apply Kd.V_drewN | apply Kd.V_drew)); exact HO275.out) hb)
             have n6_ := Aside0.mk (Kd.V_lower (Kd.V_mono (ok' := fun k_ => k_ ≠ gb239 ∧ k_ ≠ gb243 ∧ k_ ≠ gb254 ∧ k_ ≠ gb255 ∧ k_ ≠ gb266 ∧ k_ ≠ gb267 ∧ k_ ≠ gb278 ∧ k_ ≠ gb279) ho0 (fun k_ hk_ => ⟨Or.elim hk_ (fun hs_ => hs_.1) (fun hn_ => (Kd.freshB (g := gb239) (o := .cells #[.int .i64 a0_0, .int .u64 a0_1, .slice A0_2 l0_2.length c0_2] 27 (0, 0)) (by (with_reducible repeat (first | refine blk_drewN ?_ _ | refine blk_drew ?_ | refine blk_alloc ?_ _)); exact BK239.out) k_ hn_)), Or.elim hk_ (fun hs_ => hs_.2.1) (fun hn_ => (Kd.freshB (g := gb243) (o := .cells #[.int .i64 a0_0, .int .u64 0, .slice none 0 0] 27 (0, 0)) (by (with_reducible repeat (first | refine blk_drewN ?_ _ | refine blk_drew ?_ | refine blk_alloc ?_ _)); exact BK243.out) k_ hn_)), Or.elim hk_ (fun hs_ => hs_.2.2.1) (fun hn_ => (Kd.freshB (g := gb254) (o := .cells #[.int .i64 t244, .int .u64 t245, .slice Ao60 t246.length co60] 27 (0, 0)) (by (with_reducible repeat (first | refine blk_drewN ?_ _ | refine blk_drew ?_ | refine blk_alloc ?_ _)); exact BK254.out) k_ hn_)), Or.elim hk_ (fun hs_ => hs_.2.2.2.1) (fun hn_ => (Kd.freshB (g := gb255) (o := .cells #[.slice Ao62 t249.length co62, .int .i64 t252] 33 (0, 0)) (by (with_reducible repeat (first | refine blk_drewN ?_ _ | refine blk_drew ?_ | refine blk_alloc ?_ _)); exact BK255.out) k_ hn_)), Or.elim hk_ (fun hs_ => hs_.2.2.2.2.1) (fun hn_ => (Kd.freshB (g := gb266) (o := .cells #[.int .i64 t256, .int .u64 t257, .slice Ao78 t258.length co78] 27 (0, 0)) (by (with_reducible repeat (first | refine blk_drewN ?_ _ | refine blk_drew ?_ | refine blk_alloc ?_ _)); exact BK266.out) k_ hn_)), Or.elim hk_ (fun hs_ => hs_.2.2.2.2.2.1) (fun hn_ => (Kd.freshB (g := gb267) (o := .cells #[.slice Ao80 t261.length co80, .int .i64 t264] 33 (0, 0)) (by (with_reducible repeat (first | refine blk_drewN ?_ _ | refine blk_drew ?_ | refine blk_alloc ?_ _)); exact BK267.out) k_ hn_)), Or.elim hk_ (fun hs_ => hs_.2.2.2.2.2.2.1) (fun hn_ => (Kd.freshB (g := gb278) (o := .cells #[.int .i64 t268, .int .u64 t269, .slice Ao100 t270.length co100] 27 (0, 0)) (by (with_reducible repeat (first | refine blk_drewN ?_ _ | refine blk_drew ?_ | refine blk_alloc ?_ _)); exact BK278.out) k_ hn_)), Or.elim hk_ (fun hs_ => hs_.2.2.2.2.2.2.2) (fun hn_ => (Kd.freshB (g := gb279) (o := .cells #[.slice Ao101 t273.length co101, .int .i64 t276] 33 (0, 0)) (by (with_reducible repeat (first | refine blk_drewN ?_ _ | refine blk_drew ?_ | refine blk_alloc ?_ _)); exact BK279.out) k_ hn_))⟩)) (below_size (by repeat (first | (with_reducible first | exact HB.out | apply below_alloc | apply pw_below_drewN | apply below_drew1 | refine below_set ?_ GE239.out | refine below_set ?_ GE243.out | refine below_set ?_ GE254.out | refine below_set ?_ GE255.out | refine below_set ?_ GE266.out | refine below_set ?_ GE267.out | refine below_set ?_ GE278.out | refine below_set ?_ GE279.out) | exact HB.out))))
             have n7_ := Aside0.mk (blk_below (g := gb239) (o := .cells #[.int .i64 a0_0, .int .u64 a0_1, .slice A0_2 l0_2.length c0_2] 27 (0, 0)) (by (with_reducible repeat (first | refine blk_drewN ?_ _ | refine blk_drew ?_ | refine blk_alloc ?_ _)); exact BK239.out) hb)
             have n8_ := Aside0.mk (blk_below (g := gb243) (o := .cells #[.int .i64 a0_0, .int .u64 0, .slice none 0 0] 27 (0, 0)) (by (with_reducible repeat (first | refine blk_drewN ?_ _ | refine blk_drew ?_ | refine blk_alloc ?_ _)); exact BK243.out) hb)
             have n9_ := Aside0.mk (blk_below (g := gb254) (o := .cells #[.int .i64 t244, .int .u64 t245, .slice Ao60 t246.length co60] 27 (0, 0)) (by (with_reducible repeat (first | refine blk_drewN ?_ _ | refine blk_drew ?_ | refine blk_alloc ?_ _)); exact BK254.out) hb)
             have n10_ := Aside0.mk (blk_below (g := gb255) (o := .cells #[.slice Ao62 t249.length co62, .int .i64 t252] 33 (0, 0)) (by (with_reducible repeat (first | refine blk_drewN ?_ _ | refine blk_drew ?_ | refine blk_alloc ?_ _)); exact BK255.out) hb)
             have n11_ := Aside0.mk (blk_below (g := gb266) (o := .cells #[.int .i64 t256, .int .u64 t257, .slice Ao78 t258.length co78] 27 (0, 0)) (by (with_reducible repeat (first | refine blk_drewN ?_ _ | refine blk_drew ?_ | refine blk_alloc ?_ _)); exact BK266.out) hb)
             have n12_ := Aside0.mk (blk_below (g := gb267) (o := .cells #[.slice Ao80 t261.length co80, .int .i64 t264] 33 (0, 0)) (by (with_reducible repeat (first | refine blk_drewN ?_ _ | refine blk_drew ?_ | refine blk_alloc ?_ _)); exact BK267.out) hb)
             have n13_ := Aside0.mk (blk_below (g := gb278) (o := .cells #[.int .i64 t268, .int .u64 t269, .slice Ao100 t270.length co100] 27 (0, 0)) (by (with_reducible repeat (first | refine blk_drewN ?_ _ | refine blk_drew ?_ | refine blk_alloc ?_ _)); exact BK278.out) hb)
             have n14_ := Aside0.mk (blk_below (g := gb279) (o := .cells #[.slice Ao101 t273.length co101, .int .i64 t276] 33 (0, 0)) (by (with_reducible repeat (first | refine blk_drewN ?_ _ | refine blk_drew ?_ | refine blk_alloc ?_ _)); exact BK279.out) hb)
             have n15_ := Aside0.mk (below_step (by repeat (first | (with_reducible first | exact HB.out | apply below_alloc | apply pw_below_drewN | apply below_drew1 | refine below_set ?_ GE239.out | refine below_set ?_ GE243.out | refine below_set ?_ GE254.out | refine below_set ?_ GE255.out | refine below_set ?_ GE266.out | refine below_set ?_ GE267.out | refine below_set ?_ GE278.out | refine below_set ?_ GE279.out) | exact HB.out)) hb)
             clear HO248
             clear HO251
             clear HO260
             clear HO263
             clear HO272
             clear HO275
             clear BK239
             clear BK243
             clear BK254
             clear BK255
             clear BK266
             clear BK267
             clear BK278
             clear BK279
             clear HB
             have HO248 := n0_
             have HO251 := n1_
             have HO260 := n2_
             have HO263 := n3_
             have HO272 := n4_
             have HO275 := n5_
             have HO285 := n6_
             have BK239 := n7_
             have BK243 := n8_
             have BK254 := n9_
             have BK255 := n10_
             have BK266 := n11_
             have BK267 := n12_
             have BK278 := n13_
             have BK279 := n14_
             have HB := n15_
             clear n0_ n1_ n2_ n3_ n4_ n5_ n6_ n7_ n8_ n9_ n10_ n11_ n12_ n13_ n14_ n15_
             (try clear hb)
             (try clear hb2)
             (try clear hk)
             (try clear hi)
             (try clear ho0)
             refine hK.out _ _ ⟨(blk_cell BK255.out 0).trans rfl, (blk_cell BK255.out 1).trans rfl, (blk_cell BK254.out 0).trans rfl, (blk_cell BK254.out 1).trans rfl, (blk_cell BK254.out 2).trans rfl, (blk_cell BK239.out 0).trans rfl, (blk_cell BK239.out 1).trans rfl, (blk_cell BK239.out 2).trans rfl, (blk_cell BK267.out 0).trans rfl, (blk_cell BK267.out 1).trans rfl, (blk_cell BK279.out 0).trans rfl, (blk_cell BK279.out 1).trans rfl, (blk_cell BK266.out 0).trans rfl, (blk_cell BK266.out 1).trans rfl, (blk_cell BK266.out 2).trans rfl, (blk_cell BK278.out 0).trans rfl, (blk_cell BK278.out 1).trans rfl, (blk_cell BK278.out 2).trans rfl⟩ (fun hHeld => ?_)
             clear hK K
             refine norm_ (a' := ?_) ?_ ?_
             rotate_left
             ·
              show Act.put _ (some 109) _ = _
              simp only [Act.put, List.setIfInBounds_toArray, List.set_cons_zero, List.set_cons_succ, i64_w, i32_w]
              rfl
             refine one_ (i := 42) (N := some 111) #[true, true, true, true, true, true, true, true, true, true, true, true, true, true, true, true, true, true, true, true, true, true, true, true, true, true, true, true, true, true, true, true, true, true, true, true, true, true, true, true, true, true, true, false, false, false, false, false, false, false, false, false, false, false, false, false] rfl rfl (one_of HT_.out (by kernel_rfl)) (by decide) (fun K hK => ?_)
             refine goes_ Try.func12 (by kernel_rfl) rfl #[.agg #[.int .i64 a0_0, .int .u64 a0_1, .slice A0_2 l0_2.length c0_2]] (by rfl) rfl rfl (by (try simp only [List.map_toArray, List.map_cons, List.map_nil]); first | done | rfl | (simp only [List.length_drop, List.length_take]; rfl)) ?_
             with_reducible refine (samphirelaw17_ref.calls a0_0 a0_1 (fun k_ => k_ < w.heap.size) _ _ l0_2 t286 t287 t288 _ ?side1 A39.out).mono ?_
             (case side1 => exact Kd.V_mk HC0_2.out (Kd.F_below (Kd.C_F Kd.heap_string HR0_2.out) (by repeat (first | (with_reducible first | exact HB.out | apply below_alloc | apply pw_below_drewN | apply below_drew1 | refine below_set ?_ GE239.out | refine below_set ?_ GE243.out | refine below_set ?_ GE254.out | refine below_set ?_ GE255.out | refine below_set ?_ GE266.out | refine below_set ?_ GE267.out | refine below_set ?_ GE278.out | refine below_set ?_ GE279.out) | exact HB.out))))
             rintro e w112 ⟨v289, rfl, ho0, hb⟩
             refine ⟨_, rfl, ?_⟩
             have n0_ := Aside0.mk (Kd.V_below (by (with_reducible repeat (first | apply Kd.V_alloc | apply Kd.V_drewN | apply Kd.V_drew)); exact HO248.out) hb)
             have n1_ := Aside0.mk (Kd.V_below (by (with_reducible repeat (first | apply Kd.V_alloc | apply Kd.V_drewN | apply Kd.V_drew)); exact HO251.out) hb)
             have n2_ := Aside0.mk (Kd.V_below (by (with_reducible repeat (first | apply Kd.V_alloc | apply Kd.V_drewN | apply Kd.V_drew)); exact HO260.out) hb)
             have n3_ := Aside0.mk (Kd.V_below (by (with_reducible repeat (first | apply Kd.V_alloc | apply Kd.V_drewN | apply Kd.V_drew)); exact HO263.out) hb)
             have n4_ := Aside0.mk (Kd.V_below (by (with_reducible repeat (first | apply Kd.V_alloc | apply Kd.V_drewN | apply Kd.V_drew)); exact HO272.out) hb)
             have n5_ := Aside0.mk (Kd.V_below (by (with_reducible repeat (first | apply Kd.V_alloc | apply Kd.V_drewN | apply Kd.V_drew)); exact HO275.out) hb)
             have n6_ := Aside0.mk (Kd.V_below (by (with_reducible repeat (first | apply Kd.V_alloc | apply Kd.V_drewN | apply Kd.V_drew)); exact HO285.out) hb)
             have n7_ := Aside0.mk (Kd.V_lower (Kd.V_mono (ok' := fun k_ => k_ ≠ gb239 ∧ k_ ≠ gb243 ∧ k_ ≠ gb254 ∧ k_ ≠ gb255 ∧ k_ ≠ gb266 ∧ k_ ≠ gb267 ∧ k_ ≠ gb278 ∧ k_ ≠ gb279) ho0 (fun k_ hk_ => ⟨Or.elim hk_ (fun hs_ => fun e_ => Nat.not_le.2 hs_ (by rw [e_]; exact GW239.out)) (fun hn_ => (Kd.freshB (g := gb239) (o := .cells #[.int .i64 a0_0, .int .u64 a0_1, .slice A0_2 l0_2.length c0_2] 27 (0, 0)) (by (with_reducible repeat (first | refine blk_drewN ?_ _ | refine blk_drew ?_ | refine blk_alloc ?_ _)); exact BK239.out) k_ hn_)), Or.elim hk_ (fun hs_ => fun e_ => Nat.not_le.2 hs_ (by rw [e_]; exact GW243.out)) (fun hn_ => (Kd.freshB (g := gb243) (o := .cells #[.int .i64 a0_0, .int .u64 0, .slice none 0 0] 27 (0, 0)) (by (with_reducible repeat (first | refine blk_drewN ?_ _ | refine blk_drew ?_ | refine blk_alloc ?_ _)); exact BK243.out) k_ hn_)), Or.elim hk_ (fun hs_ => fun e_ => Nat.not_le.2 hs_ (by rw [e_]; exact GW254.out)) (fun hn_ => (Kd.freshB (g := gb254) (o := .cells #[.int .i64 t244, .int .u64 t245, .slice Ao60 t246.length co60] 27 (0, 0)) (by (with_reducible repeat (first | refine blk_drewN ?_ _ | refine blk_drew ?_ | refine blk_alloc ?_ _)); exact BK254.out) k_ hn_)), Or.elim hk_ (fun hs_ => fun e_ => Nat.not_le.2 hs_ (by rw [e_]; exact GW255.out)) (fun hn_ => (Kd.freshB (g := gb255) (o := .cells #[.slice Ao62 t249.length co62, .int .i64 t252] 33 (0, 0)) (by (with_reducible repeat (first | refine blk_drewN ?_ _ | refine blk_drew ?_ | refine blk_alloc ?_ _)); exact BK255.out) k_ hn_)), Or.elim hk_ (fun hs_ => fun e_ => Nat.not_le.2 hs_ (by rw [e_]; exact GW266.out)) (fun hn_ => (Kd.freshB (g := gb266) (o := .cells #[.int .i64 t256, .int .u64 t257, .slice Ao78 t258.length co78] 27 (0, 0)) (by (with_reducible repeat (first | refine blk_drewN ?_ _ | refine blk_drew ?_ | refine blk_alloc ?_ _)); exact BK266.out) k_ hn_)), Or.elim hk_ (fun hs_ => fun e_ => Nat.not_le.2 hs_ (by rw [e_]; exact GW267.out)) (fun hn_ => (Kd.freshB (g := gb267) (o := .cells #[.slice Ao80 t261.length co80, .int .i64 t264] 33 (0, 0)) (by (with_reducible repeat (first | refine blk_drewN ?_ _ | refine blk_drew ?_ | refine blk_alloc ?_ _)); exact BK267.out) k_ hn_)), Or.elim hk_ (fun hs_ => fun e_ => Nat.not_le.2 hs_ (by rw [e_]; exact GW278.out)) (fun hn_ => (Kd.freshB (g := gb278) (o := .cells #[.int .i64 t268, .int .u64 t269, .slice Ao100 t270.length co100] 27 (0, 0)) (by (with_reducible repeat (first | refine blk_drewN ?_ _ | refine blk_drew ?_ | refine blk_alloc ?_ _)); exact BK278.out) k_ hn_)), Or.elim hk_ (fun hs_ => fun e_ => Nat.not_le.2 hs_ (by rw [e_]; exact GW279.out)) (fun hn_ => (Kd.freshB (g := gb279) (o := .cells #[.slice Ao101 t273.length co101, .int .i64 t276] 33 (0, 0)) (by (with_reducible repeat (first | refine blk_drewN ?_ _ | refine blk_drew ?_ | refine blk_alloc ?_ _)); exact BK279.out) k_ hn_))⟩)) (below_size (by repeat (first | (with_reducible first | exact HB.out | apply below_alloc | apply pw_below_drewN | apply below_drew1 | refine below_set ?_ GE239.out | refine below_set ?_ GE243.out | refine below_set ?_ GE254.out | refine below_set ?_ GE255.out | refine below_set ?_ GE266.out | refine below_set ?_ GE267.out | refine below_set ?_ GE278.out | refine below_set ?_ GE279.out) | exact HB.out))))
             have n8_ := Aside0.mk (blk_below (g := gb239) (o := .cells #[.int .i64 a0_0, .int .u64 a0_1, .slice A0_2 l0_2.length c0_2] 27 (0, 0)) (by (with_reducible repeat (first | refine blk_drewN ?_ _ | refine blk_drew ?_ | refine blk_alloc ?_ _)); exact BK239.out) hb)
             have n9_ := Aside0.mk (blk_below (g := gb243) (o := .cells #[.int .i64 a0_0, .int .u64 0, .slice none 0 0] 27 (0, 0)) (by (with_reducible repeat (first | refine blk_drewN ?_ _ | refine blk_drew ?_ | refine blk_alloc ?_ _)); exact BK243.out) hb)
             have n10_ := Aside0.mk (blk_below (g := gb254) (o := .cells #[.int .i64 t244, .int .u64 t245, .slice Ao60 t246.length co60] 27 (0, 0)) (by (with_reducible repeat (first | refine blk_drewN ?_ _ | refine blk_drew ?_ | refine blk_alloc ?_ _)); exact BK254.out) hb)
             have n11_ := Aside0.mk (blk_below (g := gb255) (o := .cells #[.slice Ao62 t249.length co62, .int .i64 t252] 33 (0, 0)) (by (with_reducible repeat (first | refine blk_drewN ?_ _ | refine blk_drew ?_ | refine blk_alloc ?_ _)); exact BK255.out) hb)
             have n12_ := Aside0.mk (blk_below (g := gb266) (o := .cells #[.int .i64 t256, .int .u64 t257, .slice Ao78 t258.length co78] 27 (0, 0)) (by (with_reducible repeat (first | refine blk_drewN ?_ _ | refine blk_drew ?_ | refine blk_alloc ?_ _)); exact BK266.out) hb)
             have n13_ := Aside0.mk (blk_below (g := gb267) (o := .cells #[.slice Ao80 t261.length co80, .int .i64 t264] 33 (0, 0)) (by (with_reducible repeat (first | refine blk_drewN ?_ _ | refine blk_drew ?_ | refine blk_alloc ?_ _)); exact BK267.out) hb)
             have n14_ := Aside0.mk (blk_below (g := gb278) (o := .cells #[.int .i64 t268, .int .u64 t269, .slice Ao100 t270.length co100] 27 (0, 0)) (by (with_reducible repeat (first | refine blk_drewN ?_ _ | refine blk_drew ?_ | refine blk_alloc ?_ _)); exact BK278.out) hb)
             have n15_ := Aside0.mk (blk_below (g := gb279) (o := .cells #[.slice Ao101 t273.length co101, .int .i64 t276] 33 (0, 0)) (by (with_reducible repeat (first | refine blk_drewN ?_ _ | refine blk_drew ?_ | refine blk_alloc ?_ _)); exact BK279.out) hb)
             have n16_ := Aside0.mk (below_step (by repeat (first | (with_reducible first | exact HB.out | apply below_alloc | apply pw_below_drewN | apply below_drew1 | refine below_set ?_ GE239.out | refine below_set ?_ GE243.out | refine below_set ?_ GE254.out | refine below_set ?_ GE255.out | refine below_set ?_ GE266.out | refine below_set ?_ GE267.out | refine below_set ?_ GE278.out | refine below_set ?_ GE279.out) | exact HB.out)) hb)
             clear HO248
             clear HO251
             clear HO260
             clear HO263
             clear HO272
             clear HO275
             clear HO285
             clear BK239
             clear BK243
             clear BK254
             clear BK255
             clear BK266
             clear BK267
             clear BK278
             clear BK279
             clear HB
             have HO248 := n0_
             have HO251 := n1_
             have HO260 := n2_
             have HO263 := n3_
             have HO272 := n4_
             have HO275 := n5_
             have HO285 := n6_
             have HO290 := n7_
             have BK239 := n8_
             have BK243 := n9_
             have BK254 := n10_
             have BK255 := n11_
             have BK266 := n12_
             have BK267 := n13_
             have BK278 := n14_
             have BK279 := n15_
             have HB := n16_
             clear n0_ n1_ n2_ n3_ n4_ n5_ n6_ n7_ n8_ n9_ n10_ n11_ n12_ n13_ n14_ n15_ n16_
             (try clear hb)
             (try clear hb2)
             (try clear hk)
             (try clear hi)
             (try clear ho0)
             obtain ⟨Ao113, co113, eo113⟩ := Kd.V_slice HO285.out
             (first | subst eo113 | (injection eo113 with f1_ f2_ f3_; have f4_ := f1_.symm; have f5_ := f3_.symm; clear f1_ f2_ f3_; subst f4_; subst f5_))
             obtain ⟨Ao114, co114, eo114⟩ := Kd.V_slice HO290.out
             (first | subst eo114 | (injection eo114 with f1_ f2_ f3_; have f4_ := f1_.symm; have f5_ := f3_.symm; clear f1_ f2_ f3_; subst f4_; subst f5_))
             refine hK.out _ _ ⟨(blk_cell BK255.out 0).trans rfl, (blk_cell BK255.out 1).trans rfl, (blk_cell BK254.out 0).trans rfl, (blk_cell BK254.out 1).trans rfl, (blk_cell BK254.out 2).trans rfl, (blk_cell BK239.out 0).trans rfl, (blk_cell BK239.out 1).trans rfl, (blk_cell BK239.out 2).trans rfl, (blk_cell BK267.out 0).trans rfl, (blk_cell BK267.out 1).trans rfl, (blk_cell BK279.out 0).trans rfl, (blk_cell BK279.out 1).trans rfl, (blk_cell BK266.out 0).trans rfl, (blk_cell BK266.out 1).trans rfl, (blk_cell BK266.out 2).trans rfl, (blk_cell BK278.out 0).trans rfl, (blk_cell BK278.out 1).trans rfl, (blk_cell BK278.out 2).trans rfl⟩ (fun hHeld => ?_)
             clear hK K
             refine norm_ (a' := ?_) ?_ ?_
             rotate_left
             ·
              show Act.put _ (some 111) _ = _
              simp only [Act.put, List.setIfInBounds_toArray, List.set_cons_zero, List.set_cons_succ, i64_w, i32_w]
              rfl
             refine one_ (i := 43) (N := some 112) #[true, true, true, true, true, true, true, true, true, true, true, true, true, true, true, true, true, true, true, true, true, true, true, true, true, true, true, true, true, true, true, true, true, true, true, true, true, true, true, true, true, true, true, true, false, false, false, false, false, false, false, false, false, false, false, false] rfl rfl (one_of HT_.out (by kernel_rfl)) (by decide) (fun K hK => ?_)
             refine goes_ Try.func11 (by kernel_rfl) rfl #[.agg #[.int .i64 t281, .int .u64 t282, .slice Ao113 t283.length co113], .agg #[.int .i64 t286, .int .u64 t287, .slice Ao114 t288.length co114]] (by rfl) rfl rfl (by (try simp only [List.map_toArray, List.map_cons, List.map_nil]); first | done | rfl | (simp only [List.length_drop, List.length_take]; rfl)) ?_
             with_reducible refine (samphireref17_Same.calls kj3 t281 t282 _ _ t283 t286 t287 _ _ t288 true _ ?side1 ?side2 ?side3 ?side4 A40.out).mono ?_
             (case side1 => repeat (first | exact (Kd.V_reads' HO285.out).2.2 | (with_reducible refine Kd.C_alloc ?_ _) | (with_reducible refine Kd.C_drewN ?_ _) | (with_reducible refine Kd.C_drew ?_)))
             (case side2 => exact (Kd.V_reads' HO285.out).2.1)
             (case side3 => repeat (first | exact (Kd.V_reads' HO290.out).2.2 | (with_reducible refine Kd.C_alloc ?_ _) | (with_reducible refine Kd.C_drewN ?_ _) | (with_reducible refine Kd.C_drew ?_)))
             (case side4 => exact (Kd.V_reads' HO290.out).2.1)
             rintro e w115 ⟨rfl, hb⟩
             refine ⟨_, rfl, ?_⟩
             have n0_ := Aside0.mk (Kd.V_below (by (with_reducible repeat (first | apply Kd.V_alloc | apply Kd.V_drewN | apply Kd.V_drew)); exact HO248.out) hb)
             have n1_ := Aside0.mk (Kd.V_below (by (with_reducible repeat (first | apply Kd.V_alloc | apply Kd.V_drewN | apply Kd.V_drew)); exact HO251.out) hb)
             have n2_ := Aside0.mk (Kd.V_below (by (with_reducible repeat (first | apply Kd.V_alloc | apply Kd.V_drewN | apply Kd.V_drew)); exact HO260.out) hb)
             have n3_ := Aside0.mk (Kd.V_below (by (with_reducible repeat (first | apply Kd.V_alloc | apply Kd.V_drewN | apply Kd.V_drew)); exact HO263.out) hb)
             have n4_ := Aside0.mk (Kd.V_below (by (with_reducible repeat (first | apply Kd.V_alloc | apply Kd.V_drewN | apply Kd.V_drew)); exact HO272.out) hb)
             have n5_ := Aside0.mk (Kd.V_below (by (with_reducible repeat (first | apply Kd.V_alloc | apply Kd.V_drewN | apply Kd.V_drew)); exact HO275.out) hb)
             have n6_ := Aside0.mk (Kd.V_below (by (with_reducible repeat (first | apply Kd.V_alloc | apply Kd.V_drewN | apply Kd.V_drew)); exact HO285.out) hb)
             have n7_ := Aside0.mk (Kd.V_below (by (with_reducible repeat (first | apply Kd.V_alloc | apply Kd.V_drewN | apply Kd.V_drew)); exact HO290.out) hb)
             have n8_ := Aside0.mk (blk_below (g := gb239) (o := .cells #[.int .i64 a0_0, .int .u64 a0_1, .slice A0_2 l0_2.length c0_2] 27 (0, 0)) (by (with_reducible repeat (first | refine blk_drewN ?_ _ | refine blk_drew ?_ | refine blk_alloc ?_ _)); exact BK239.out) hb)
             have n9_ := Aside0.mk (blk_below (g := gb243) (o := .cells #[.int .i64 a0_0, .int .u64 0, .slice none 0 0] 27 (0, 0)) (by (with_reducible repeat (first | refine blk_drewN ?_ _ | refine blk_drew ?_ | refine blk_alloc ?_ _)); exact BK243.out) hb)
             have n10_ := Aside0.mk (blk_below (g := gb254) (o := .cells #[.int .i64 t244, .int .u64 t245, .slice Ao60 t246.length co60] 27 (0, 0)) (by (with_reducible repeat (first | refine blk_drewN ?_ _ | refine blk_drew ?_ | refine blk_alloc ?_ _)); exact BK254.out) hb)
             have n11_ := Aside0.mk (blk_below (g := gb255) (o := .cells #[.slice Ao62 t249.length co62, .int .i64 t252] 33 (0, 0)) (by (with_reducible repeat (first | refine blk_drewN ?_ _ | refine blk_drew ?_ | refine blk_alloc ?_ _)); exact BK255.out) hb)
             have n12_ := Aside0.mk (blk_below (g := gb266) (o := .cells #[.int .i64 t256, .int .u64 t257, .slice Ao78 t258.length co78] 27 (0, 0)) (by (with_reducible repeat (first | refine blk_drewN ?_ _ | refine blk_drew ?_ | refine blk_alloc ?_ _)); exact BK266.out) hb)
             have n13_ := Aside0.mk (blk_below (g := gb267) (o := .cells #[.slice Ao80 t261.length co80, .int .i64 t264] 33 (0, 0)) (by (with_reducible repeat (first | refine blk_drewN ?_ _ | refine blk_drew ?_ | refine blk_alloc ?_ _)); exact BK267.out) hb)
             have n14_ := Aside0.mk (blk_below (g := gb278) (o := .cells #[.int .i64 t268, .int .u64 t269, .slice Ao100 t270.length co100] 27 (0, 0)) (by (with_reducible repeat (first | refine blk_drewN ?_ _ | refine blk_drew ?_ | refine blk_alloc ?_ _)); exact BK278.out) hb)
             have n15_ := Aside0.mk (blk_below (g := gb279) (o := .cells #[.slice Ao101 t273.length co101, .int .i64 t276] 33 (0, 0)) (by (with_reducible repeat (first | refine blk_drewN ?_ _ | refine blk_drew ?_ | refine blk_alloc ?_ _)); exact BK279.out) hb)
             have n16_ := Aside0.mk (below_step (by repeat (first | (with_reducible first | exact HB.out | apply below_alloc | apply pw_below_drewN | apply below_drew1 | refine below_set ?_ GE239.out | refine below_set ?_ GE243.out | refine below_set ?_ GE254.out | refine below_set ?_ GE255.out | refine below_set ?_ GE266.out | refine below_set ?_ GE267.out | refine below_set ?_ GE278.out | refine below_set ?_ GE279.out) | exact HB.out)) hb)
             clear HO248
             clear HO251
             clear HO260
             clear HO263
             clear HO272
             clear HO275
             clear HO285
             clear HO290
             clear BK239
             clear BK243
             clear BK254
             clear BK255
             clear BK266
             clear BK267
             clear BK278
             clear BK279
             clear HB
             have HO248 := n0_
             have HO251 := n1_
             have HO260 := n2_
             have HO263 := n3_
             have HO272 := n4_
             have HO275 := n5_
             have HO285 := n6_
             have HO290 := n7_
             have BK239 := n8_
             have BK243 := n9_
             have BK254 := n10_
             have BK255 := n11_
             have BK266 := n12_
             have BK267 := n13_
             have BK278 := n14_
             have BK279 := n15_
             have HB := n16_
             clear n0_ n1_ n2_ n3_ n4_ n5_ n6_ n7_ n8_ n9_ n10_ n11_ n12_ n13_ n14_ n15_ n16_
             (try clear hb)
             (try clear hb2)
             (try clear hk)
             (try clear hi)
             refine hK.out _ _ ⟨(blk_cell BK255.out 0).trans rfl, (blk_cell BK255.out 1).trans rfl, (blk_cell BK254.out 0).trans rfl, (blk_cell BK254.out 1).trans rfl, (blk_cell BK254.out 2).trans rfl, (blk_cell BK239.out 0).trans rfl, (blk_cell BK239.out 1).trans rfl, (blk_cell BK239.out 2).trans rfl, (blk_cell BK267.out 0).trans rfl, (blk_cell BK267.out 1).trans rfl, (blk_cell BK279.out 0).trans rfl, (blk_cell BK279.out 1).trans rfl, (blk_cell BK266.out 0).trans rfl, (blk_cell BK266.out 1).trans rfl, (blk_cell BK266.out 2).trans rfl, (blk_cell BK278.out 0).trans rfl, (blk_cell BK278.out 1).trans rfl, (blk_cell BK278.out 2).trans rfl⟩ (fun hHeld => ?_)
             clear hK K
             refine norm_ (a' := ?_) ?_ ?_
             rotate_left
             ·
              show Act.put _ (some 112) _ = _
              simp only [Act.put, List.setIfInBounds_toArray, List.set_cons_zero, List.set_cons_succ, i64_w, i32_w]
              rfl
             refine pure_ (i := 44) (N := some 113) (v := ?_) (a' := ?_) #[true, true, true, true, true, true, true, true, true, true, true, true, true, true, true, true, true, true, true, true, true, true, true, true, true, true, true, true, true, true, true, true, true, true, true, true, true, true, true, true, true, true, true, true, true, false, false, false, false, false, false, false, false, false, false, false] rfl rfl (any_of HT_.out (by kernel_rfl)) (fun _ _ _ h => h) (Or.inl ⟨by rfl, ?_⟩) ?_ ?_
             rotate_left
             ·
              intro w'
              go_simp
              with_reducible rfl
             rotate_left
             ·
              simp only [Act.put, List.setIfInBounds_toArray, List.set_cons_zero, List.set_cons_succ, i64_w, i32_w]
              rfl
             refine pure_ (i := 45) (N := some 114) (v := ?_) (a' := ?_) #[true, true, true, true, true, true, true, true, true, true, true, true, true, true, true, true, true, true, true, true, true, true, true, true, true, true, true, true, true, true, true, true, true, true, true, true, true, true, true, true, true, true, true, true, true, true, false, false, false, false, false, false, false, false, false, false] rfl rfl (any_of HT_.out (by kernel_rfl)) (fun _ _ _ h => h) (Or.inl ⟨by rfl, ?_⟩) ?_ ?_
             rotate_left
             ·
              intro w'
              go_simp
              with_reducible rfl
             rotate_left
             ·
              simp only [Act.put, List.setIfInBounds_toArray, List.set_cons_zero, List.set_cons_succ, i64_w, i32_w]
              rfl
             refine take_ (i := 46) (N := some 115) (v := ?_) (a' := ?_) #[true, true, true, true, true, true, true, true, true, true, true, true, true, true, true, true, true, true, true, true, true, true, true, true, true, true, true, true, true, true, true, true, true, true, true, true, true, true, true, true, true, true, true, true, true, true, true, false, false, false, false, false, false, false, false, false] rfl rfl (take_ofW HT_.out HW_.out (by kernel_rfl)) (fun _ _ _ h => h) (Or.inl ⟨by rfl, ?_⟩) hHeld ?_ ?_
             rotate_left
             ·
              rintro w' ⟨s0, s1, s2, s3, s4, s5, s6, s7, s8, s9, s10, s11, s12, s13, s14, s15, s16, s17⟩
              go_simp
              with_reducible rfl
             rotate_left
             ·
              simp only [Act.put, List.setIfInBounds_toArray, List.set_cons_zero, List.set_cons_succ, i64_w, i32_w]
              rfl
             refine take_ (i := 48) (N := some 117) (v := ?_) (a' := ?_) #[true, true, true, true, true, true, true, true, true, true, true, true, true, true, true, true, true, true, true, true, true, true, true, true, true, true, true, true, true, true, true, true, true, true, true, true, true, true, true, true, true, true, true, true, true, true, true, false, true, false, false, false, false, false, false, false] rfl rfl (take_ofW HT_.out HW_.out (by kernel_rfl)) (fun _ _ _ h => h) (Or.inl ⟨by rfl, ?_⟩) hHeld ?_ ?_
             rotate_left
             ·
              rintro w' ⟨s0, s1, s2, s3, s4, s5, s6, s7, s8, s9, s10, s11, s12, s13, s14, s15, s16, s17⟩
              go_simp
              with_reducible rfl
             rotate_left
             ·
              simp only [Act.put, List.setIfInBounds_toArray, List.set_cons_zero, List.set_cons_succ, i64_w, i32_w]
              rfl
             refine one_ (i := 47) (N := some 116) #[true, true, true, true, true, true, true, true, true, true, true, true, true, true, true, true, true, true, true, true, true, true, true, true, true, true, true, true, true, true, true, true, true, true, true, true, true, true, true, true, true, true, true, true, true, true, true, true, true, false, false, false, false, false, false, false] rfl rfl (one_of HT_.out (by kernel_rfl)) (by decide) (fun K hK => ?_)
             refine goes_ Try.func12 (by kernel_rfl) rfl #[.agg #[.int .i64 t268, .int .u64 t269, .slice Ao100 t270.length co100]] (by rfl) rfl rfl (by (try simp only [List.map_toArray, List.map_cons, List.map_nil]); first | done | rfl | (simp only [List.length_drop, List.length_take]; rfl)) ?_
             with_reducible refine (samphirelaw17_ref.calls t268 t269 (fun k_ => (k_ ≠ gb239 ∧ (k_ ≠ gb243 ∧ (k_ ≠ gb254 ∧ (k_ ≠ gb255 ∧ (k_ ≠ gb266 ∧ (k_ ≠ gb267 ∧ (k_ ≠ gb278 ∧ k_ ≠ gb279)))))))) _ _ t270 t292 t293 t294 _ ?side1 A42.out).mono ?_
             (case side1 => exact HO272.out)
             rintro e w116 ⟨v295, rfl, ho0, hb⟩
             refine ⟨_, rfl, ?_⟩
             have n0_ := Aside0.mk (Kd.V_below (by (with_reducible repeat (first | apply Kd.V_alloc | apply Kd.V_drewN | apply Kd.V_drew)); exact HO248.out) hb)
             have n1_ := Aside0.mk (Kd.V_below (by (with_reducible repeat (first | apply Kd.V_alloc | apply Kd.V_drewN | apply Kd.V_drew)); exact HO251.out) hb)
             have n2_ := Aside0.mk (Kd.V_below (by (with_reducible repeat (first | apply Kd.V_alloc | apply Kd.V_drewN | apply Kd.V_drew)); exact HO260.out) hb)
             have n3_ := Aside0.mk (Kd.V_below (by (with_reducible repeat (first | apply Kd.V_alloc | apply Kd.V_drewN | apply Kd.V_drew)); exact HO263.out) hb)
             have n4_ := Aside0.mk (Kd.V_below (by (with_reducible repeat (first | apply Kd.V_alloc | apply Kd.V_drewN | apply Kd.V_drew)); exact HO272.out) hb)
             have n5_ := Aside0.mk (Kd.V_below (by (with_reducible repeat (first | apply Kd.V_alloc | apply Kd.V_drewN | apply Kd.V_drew)); exact HO275.out) hb)
             have n6_ := Aside0.mk (Kd.V_below (by (with_reducible repeat (first | apply Kd.V_alloc | apply Kd.V_drewN | apply Kd.V_drew)); exact HO285.out) hb)
             have n7_ := Aside0.mk (Kd.V_below (by (with_reducible repeat (first | apply Kd.V_alloc | apply Kd.V_drewN | apply Kd.V_drew)); exact HO290.out) hb)
             have n8_ := Aside0.mk (Kd.V_lower (Kd.V_mono (ok' := fun k_ => k_ ≠ gb239 ∧ k_ ≠ gb243 ∧ k_ ≠ gb254 ∧ k_ ≠ gb255 ∧ k_ ≠ gb266 ∧ k_ ≠ gb267 ∧ k_ ≠ gb278 ∧ k_ ≠ gb279) ho0 (fun k_ hk_ => ⟨Or.elim hk_ (fun hs_ => hs_.1) (fun hn_ => (Kd.freshB (g := gb239) (o := .cells #[.int .i64 a0_0, .int .u64 a0_1, .slice A0_2 l0_2.length c0_2] 27 (0, 0)) (by (with_reducible repeat (first | refine blk_drewN ?_ _ | refine blk_drew ?_ | refine blk_alloc ?_ _)); exact BK239.out) k_ hn_)), Or.elim hk_ (fun hs_ => hs_.2.1) (fun hn_ => (Kd.freshB (g := gb243) (o := .cells #[.int .i64 a0_0, .int .u64 0, .slice none 0 0] 27 (0, 0)) (by (with_reducible repeat (first | refine blk_drewN ?_ _ | refine blk_drew ?_ | refine blk_alloc ?_ _)); exact BK243.out) k_ hn_)), Or.elim hk_ (fun hs_ => hs_.2.2.1) (fun hn_ => (Kd.freshB (g := gb254) (o := .cells #[.int .i64 t244, .int .u64 t245, .slice Ao60 t246.length co60] 27 (0, 0)) (by (with_reducible repeat (first | refine blk_drewN ?_ _ | refine blk_drew ?_ | refine blk_alloc ?_ _)); exact BK254.out) k_ hn_)), Or.elim hk_ (fun hs_ => hs_.2.2.2.1) (fun hn_ => (Kd.freshB (g := gb255) (o := .cells #[.slice Ao62 t249.length co62, .int .i64 t252] 33 (0, 0)) (by (with_reducible repeat (first | refine blk_drewN ?_ _ | refine blk_drew ?_ | refine blk_alloc ?_ _)); exact BK255.out) k_ hn_)), Or.elim hk_ (fun hs_ => hs_.2.2.2.2.1) (fun hn_ => (Kd.freshB (g := gb266) (o := .cells #[.int .i64 t256, .int .u64 t257, .slice Ao78 t258.length co78] 27 (0, 0)) (by (with_reducible repeat (first | refine blk_drewN ?_ _ | refine blk_drew ?_ | refine blk_alloc ?_ _)); exact BK266.out) k_ hn_)), Or.elim hk_ (fun hs_ => hs_.2.2.2.2.2.1) (fun hn_ => (Kd.freshB (g := gb267) (o := .cells #[.slice Ao80 t261.length co80, .int .i64 t264] 33 (0, 0)) (by (with_reducible repeat (first | refine blk_drewN ?_ _ | refine blk_drew ?_ | refine blk_alloc ?_ _)); exact BK267.out) k_ hn_)), Or.elim hk_ (fun hs_ => hs_.2.2.2.2.2.2.1) (fun hn_ => (Kd.freshB (g := gb278) (o := .cells #[.int .i64 t268, .int .u64 t269, .slice Ao100 t270.length co100] 27 (0, 0)) (by (with_reducible repeat (first | refine blk_drewN ?_ _ | refine blk_drew ?_ | refine blk_alloc ?_ _)); exact BK278.out) k_ hn_)), Or.elim hk_ (fun hs_ => hs_.2.2.2.2.2.2.2) (fun hn_ => (Kd.freshB (g := gb279) (o := .cells #[.slice Ao101 t273.length co101, .int .i64 t276] 33 (0, 0)) (by (with_reducible repeat (first | refine blk_drewN ?_ _ | refine blk_drew ?_ | refine blk_alloc ?_ _)); exact BK279.out) k_ hn_))⟩)) (below_size (by repeat (first | (with_reducible first | exact HB.out | apply below_alloc | apply pw_below_drewN | apply below_drew1 | refine below_set ?_ GE239.out | refine below_set ?_ GE243.out | refine below_set ?_ GE254.out | refine below_set ?_ GE255.out | refine below_set ?_ GE266.out | refine below_set ?_ GE267.out | refine below_set ?_ GE278.out | refine below_set ?_ GE279.out) | exact HB.out))))
             have n9_ := Aside0.mk (blk_below (g := gb239) (o := .cells #[.int .i64 a0_0, .int .u64 a0_1, .slice A0_2 l0_2.length c0_2] 27 (0, 0)) (by (with_reducible repeat (first | refine blk_drewN ?_ _ | refine blk_drew ?_ | refine blk_alloc ?_ _)); exact BK239.out) hb)
             have n10_ := Aside0.mk (blk_below (g := gb243) (o := .cells #[.int .i64 a0_0, .int .u64 0, .slice none 0 0] 27 (0, 0)) (by (with_reducible repeat (first | refine blk_drewN ?_ _ | refine blk_drew ?_ | refine blk_alloc ?_ _)); exact BK243.out) hb)
             have n11_ := Aside0.mk (blk_below (g := gb254) (o := .cells #[.int .i64 t244, .int .u64 t245, .slice Ao60 t246.length co60] 27 (0, 0)) (by (with_reducible repeat (first | refine blk_drewN ?_ _ | refine blk_drew ?_ | refine blk_alloc ?_ _)); exact BK254.out) hb)
             have n12_ := Aside0.mk (blk_below (g := gb255) (o := .cells #[.slice Ao62 t249.length co62, .int .i64 t252] 33 (0, 0)) (by (with_reducible repeat (first | refine blk_drewN ?_ _ | refine blk_drew ?_ | refine blk_alloc ?_ _)); exact BK255.out) hb)
             have n13_ := Aside0.mk (blk_below (g := gb266) (o := .cells #[.int .i64 t256, .int .u64 t257, .slice Ao78 t258.length co78] 27 (0, 0)) (by (with_reducible repeat (first | refine blk_drewN ?_ _ | refine blk_drew ?_ | refine blk_alloc ?_ _)); exact BK266.out) hb)
             have n14_ := Aside0.mk (blk_below (g := gb267) (o := .cells #[.slice Ao80 t261.length co80, .int .i64 t264] 33 (0, 0)) (by (with_reducible repeat (first | refine blk_drewN ?_ _ | refine blk_drew ?_ | refine blk_alloc ?_ _)); exact BK267.out) hb)
             have n15_ := Aside0.mk (blk_below (g := gb278) (o := .cells #[.int .i64 t268, .int .u64 t269, .slice Ao100 t270.length co100] 27 (0, 0)) (by (with_reducible repeat (first | refine blk_drewN ?_ _ | refine blk_drew ?_ | refine blk_alloc ?_ _)); exact BK278.out) hb)
             have n16_ := Aside0.mk (blk_below (g := gb279) (o := .cells #[.slice Ao101 t273.length co101, .int .i64 t276] 33 (0, 0)) (by (with_reducible repeat (first | refine blk_drewN ?_ _ | refine blk_drew ?_ | refine blk_alloc ?_ _)); exact BK279.out) hb)
             have n17_ := Aside0.mk (below_step (by repeat (first | (with_reducible first | exact HB.out | apply below_alloc | apply pw_below_drewN | apply below_drew1 | refine below_set ?_ GE239.out | refine below_set ?_ GE243.out | refine below_set ?_ GE254.out | refine below_set ?_ GE255.out | refine below_set ?_ GE266.out | refine below_set ?_ GE267.out | refine below_set ?_ GE278.out | refine below_set ?_ GE279.out) | exact HB.out)) hb)
             clear HO248
             clear HO251
             clear HO260
             clear HO263
             clear HO272
             clear HO275
             clear HO285
             clear HO290
             clear BK239
             clear BK243
             clear BK254
             clear BK255
             clear BK266
             clear BK267
             clear BK278
             clear BK279
             clear HB
             have HO248 := n0_
             have HO251 := n1_
             have HO260 := n2_
             have HO263 := n3_
             have HO272 := n4_
             have HO275 := n5_
             have HO285 := n6_
             have HO290 := n7_
             have HO296 := n8_
             have BK239 := n9_
             have BK243 := n10_
             have BK254 := n11_
             have BK255 := n12_
             have BK266 := n13_
             have BK267 := n14_
             have BK278 := n15_
             have BK279 := n16_
             have HB := n17_
             clear n0_ n1_ n2_ n3_ n4_ n5_ n6_ n7_ n8_ n9_ n10_ n11_ n12_ n13_ n14_ n15_ n16_ n17_
             (try clear hb)
             (try clear hb2)
             (try clear hk)
             (try clear hi)
             (try clear ho0)
             refine hK.out _ _ ⟨(blk_cell BK255.out 0).trans rfl, (blk_cell BK255.out 1).trans rfl, (blk_cell BK254.out 0).trans rfl, (blk_cell BK254.out 1).trans rfl, (blk_cell BK254.out 2).trans rfl, (blk_cell BK239.out 0).trans rfl, (blk_cell BK239.out 1).trans rfl, (blk_cell BK239.out 2).trans rfl, (blk_cell BK267.out 0).trans rfl, (blk_cell BK267.out 1).trans rfl, (blk_cell BK279.out 0).trans rfl, (blk_cell BK279.out 1).trans rfl, (blk_cell BK266.out 0).trans rfl, (blk_cell BK266.out 1).trans rfl, (blk_cell BK266.out 2).trans rfl, (blk_cell BK278.out 0).trans rfl, (blk_cell BK278.out 1).trans rfl, (blk_cell BK278.out 2).trans rfl⟩ (fun hHeld => ?_)
             clear hK K
             refine norm_ (a' := ?_) ?_ ?_
             rotate_left
             ·
              show Act.put _ (some 116) _ = _
              simp only [Act.put, List.setIfInBounds_toArray, List.set_cons_zero, List.set_cons_succ, i64_w, i32_w]
              rfl
             refine one_ (i := 49) (N := some 118) #[true, true, true, true, true, true, true, true, true, true, true, true, true, true, true, true, true, true, true, true, true, true, true, true, true, true, true, true, true, true, true, true, true, true, true, true, true, true, true, true, true, true, true, true, true, true, true, true, true, true, false, false, false, false, false, false] rfl rfl (one_of HT_.out (by kernel_rfl)) (by decide) (fun K hK => ?_)
             refine goes_ Try.func12 (by kernel_rfl) rfl #[.agg #[.int .i64 a0_0, .int .u64 a0_1, .slice A0_2 l0_2.length c0_2]] (by rfl) rfl rfl (by (try simp only [List.map_toArray, List.map_cons, List.map_nil]); first | done | rfl | (simp only [List.length_drop, List.length_take]; rfl)) ?_
             with_reducible refine (samphirelaw17_ref.calls a0_0 a0_1 (fun k_ => k_ < w.heap.size) _ _ l0_2 t297 t298 t299 _ ?side1 A43.out).mono ?_
             (case side1 => exact Kd.V_mk HC0_2.out (Kd.F_below (Kd.C_F Kd.heap_string HR0_2.out) (by repeat (first | (with_reducible first | exact HB.out | apply below_alloc | apply pw_below_drewN | apply below_drew1 | refine below_set ?_ GE239.out | refine below_set ?_ GE243.out | refine below_set ?_ GE254.out | refine below_set ?_ GE255.out | refine below_set ?_ GE266.out | refine below_set ?_ GE267.out | refine below_set ?_ GE278.out | refine below_set ?_ GE279.out) | exact HB.out))))
             rintro e w117 ⟨v300, rfl, ho0, hb⟩
             refine ⟨_, rfl, ?_⟩
             have n0_ := Aside0.mk (Kd.V_below (by (with_reducible repeat (first | apply Kd.V_alloc | apply Kd.V_drewN | apply Kd.V_drew)); exact HO248.out) hb)
             have n1_ := Aside0.mk (Kd.V_below (by (with_reducible repeat (first | apply Kd.V_alloc | apply Kd.V_drewN | apply Kd.V_drew)); exact HO251.out) hb)
             have n2_ := Aside0.mk (Kd.V_below (by (with_reducible repeat (first | apply Kd.V_alloc | apply Kd.V_drewN | apply Kd.V_drew)); exact HO260.out) hb)
             have n3_ := Aside0.mk (Kd.V_below (by (with_reducible repeat (first | apply Kd.V_alloc | apply Kd.V_drewN | apply Kd.V_drew)); exact HO263.out) hb)
             have n4_ := Aside0.mk (Kd.V_below (by (with_reducible repeat (first | apply Kd.V_alloc | apply Kd.V_drewN | apply Kd.V_drew)); exact HO272.out) hb)
             have n5_ := Aside0.mk (Kd.V_below (by (with_reducible repeat (first | apply Kd.V_alloc | apply Kd.V_drewN | apply Kd.V_drew)); exact HO275.out) hb)
             have n6_ := Aside0.mk (Kd.V_below (by (with_reducible repeat (first | apply Kd.V_alloc | apply Kd.V_drewN | apply Kd.V_drew)); exact HO285.out) hb)
             have n7_ := Aside0.mk (Kd.V_below (by (with_reducible repeat (first | apply Kd.V_alloc | apply Kd.V_drewN | apply Kd.V_drew)); exact HO290.out) hb)
             have n8_ := Aside0.mk (Kd.V_below (by (with_reducible repeat (first | apply Kd.V_alloc | apply Kd.V_drewN | apply Kd.V_drew)); exact HO296.out) hb)
             have n9_ := Aside0.mk (Kd.V_lower (Kd.V_mono (ok' := fun k_ => k_ ≠ gb239 ∧ k_ ≠ gb243 ∧ k_ ≠ gb254 ∧ k_ ≠ gb255 ∧ k_ ≠ gb266 ∧ k_ ≠ gb267 ∧ k_ ≠ gb278 ∧ k_ ≠ gb279) ho0 (fun k_ hk_ => ⟨Or.elim hk_ (fun hs_ => fun e_ => Nat.not_le.2 hs_ (by rw [e_]; exact GW239.out)) (fun hn_ => (Kd.freshB (g := gb239) (o := .cells #[.int .i64 a0_0, .int .u64 a0_1, .slice A0_2 l0_2.length c0_2] 27 (0, 0)) (by (with_reducible repeat (first | refine blk_drewN ?_ _ | refine blk_drew ?_ | refine blk_alloc ?_ _)); exact BK239.out) k_ hn_)), Or.elim hk_ (fun hs_ => fun e_ => Nat.not_le.2 hs_ (by rw [e_]; exact GW243.out)) (fun hn_ => (Kd.freshB (g := gb243) (o := .cells #[.int .i64 a0_0, .int .u64 0, .slice none 0 0] 27 (0, 0)) (by (with_reducible repeat (first | refine blk_drewN ?_ _ | refine blk_drew ?_ | refine blk_alloc ?_ _)); exact BK243.out) k_ hn_)), Or.elim hk_ (fun hs_ => fun e_ => Nat.not_le.2 hs_ (by rw [e_]; exact GW254.out)) (fun hn_ => (Kd.freshB (g := gb254) (o := .cells #[.int .i64 t244, .int .u64 t245, .slice Ao60 t246.length co60] 27 (0, 0)) (by (with_reducible repeat (first | refine blk_drewN ?_ _ | refine blk_drew ?_ | refine blk_alloc ?_ _)); exact BK254.out) k_ hn_)), Or.elim hk_ (fun hs_ => fun e_ => Nat.not_le.2 hs_ (by rw [e_]; exact GW255.out)) (fun hn_ => (Kd.freshB (g := gb255) (o := .cells #[.slice Ao62 t249.length co62, .int .i64 t252] 33 (0, 0)) (by (with_reducible repeat (first | refine blk_drewN ?_ _ | refine blk_drew ?_ | refine blk_alloc ?_ _)); exact BK255.out) k_ hn_)), Or.elim hk_ (fun hs_ => fun e_ => Nat.not_le.2 hs_ (by rw [e_]; exact GW266.out)) (fun hn_ => (Kd.freshB (g := gb266) (o := .cells #[.int .i64 t256, .int .u64 t257, .slice Ao78 t258.length co78] 27 (0, 0)) (by (with_reducible repeat (first | refine blk_drewN ?_ _ | refine blk_drew ?_ | refine blk_alloc ?_ _)); exact BK266.out) k_ hn_)), Or.elim hk_ (fun hs_ => fun e_ => Nat.not_le.2 hs_ (by rw [e_]; exact GW267.out)) (fun hn_ => (Kd.freshB (g := gb267) (o := .cells #[.slice Ao80 t261.length co80, .int .i64 t264] 33 (0, 0)) (by (with_reducible repeat (first | refine blk_drewN ?_ _ | refine blk_drew ?_ | refine blk_alloc ?_ _)); exact BK267.out) k_ hn_)), Or.elim hk_ (fun hs_ => fun e_ => Nat.not_le.2 hs_ (by rw [e_]; exact GW278.out)) (fun hn_ => (Kd.freshB (g := gb278) (o := .cells #[.int .i64 t268, .int .u64 t269, .slice Ao100 t270.length co100] 27 (0, 0)) (by (with_reducible repeat (first | refine blk_drewN ?_ _ | refine blk_drew ?_ | refine blk_alloc ?_ _)); exact BK278.out) k_ hn_)), Or.elim hk_ (fun hs_ => fun e_ => Nat.not_le.2 hs_ (by rw [e_]; exact GW279.out)) (fun hn_ => (Kd.freshB (g := gb279) (o := .cells #[.slice Ao101 t273.length co101, .int .i64 t276] 33 (0, 0)) (by (with_reducible repeat (first | refine blk_drewN ?_ _ | refine blk_drew ?_ | refine blk_alloc ?_ _)); exact BK279.out) k_ hn_))⟩)) (below_size (by repeat (first | (with_reducible first | exact HB.out | apply below_alloc | apply pw_below_drewN | apply below_drew1 | refine below_set ?_ GE239.out | refine below_set ?_ GE243.out | refine below_set ?_ GE254.out | refine below_set ?_ GE255.out | refine below_set ?_ GE266.out | refine below_set ?_ GE267.out | refine below_set ?_ GE278.out | refine below_set ?_ GE279.out) | exact HB.out))))
             have n10_ := Aside0.mk (blk_below (g := gb239) (o := .cells #[.int .i64 a0_0, .int .u64 a0_1, .slice A0_2 l0_2.length c0_2] 27 (0, 0)) (by (with_reducible repeat (first | refine blk_drewN ?_ _ | refine blk_drew ?_ | refine blk_alloc ?_ _)); exact BK239.out) hb)
             have n11_ := Aside0.mk (blk_below (g := gb243) (o := .cells #[.int .i64 a0_0, .int .u64 0, .slice none 0 0] 27 (0, 0)) (by (with_reducible repeat (first | refine blk_drewN ?_ _ | refine blk_drew ?_ | refine blk_alloc ?_ _)); exact BK243.out) hb)
             have n12_ := Aside0.mk (blk_below (g := gb254) (o := .cells #[.int .i64 t244, .int .u64 t245, .slice Ao60 t246.length co60] 27 (0, 0)) (by (with_reducible repeat (first | refine blk_drewN ?_ _ | refine blk_drew ?_ | refine blk_alloc ?_ _)); exact BK254.out) hb)
             have n13_ := Aside0.mk (blk_below (g := gb255) (o := .cells #[.slice Ao62 t249.length co62, .int .i64 t252] 33 (0, 0)) (by (with_reducible repeat (first | refine blk_drewN ?_ _ | refine blk_drew ?_ | refine blk_alloc ?_ _)); exact BK255.out) hb)
             have n14_ := Aside0.mk (blk_below (g := gb266) (o := .cells #[.int .i64 t256, .int .u64 t257, .slice Ao78 t258.length co78] 27 (0, 0)) (by (with_reducible repeat (first | refine blk_drewN ?_ _ | refine blk_drew ?_ | refine blk_alloc ?_ _)); exact BK266.out) hb)
             have n15_ := Aside0.mk (blk_below (g := gb267) (o := .cells #[.slice Ao80 t261.length co80, .int .i64 t264] 33 (0, 0)) (by (with_reducible repeat (first | refine blk_drewN ?_ _ | refine blk_drew ?_ | refine blk_alloc ?_ _)); exact BK267.out) hb)
             have n16_ := Aside0.mk (blk_below (g := gb278) (o := .cells #[.int .i64 t268, .int .u64 t269, .slice Ao100 t270.length co100] 27 (0, 0)) (by (with_reducible repeat (first | refine blk_drewN ?_ _ | refine blk_drew ?_ | refine blk_alloc ?_ _)); exact BK278.out) hb)
             have n17_ := Aside0.mk (blk_below (g := gb279) (o := .cells #[.slice Ao101 t273.length co101, .int .i64 t276] 33 (0, 0)) (by (with_reducible repeat (first | refine blk_drewN ?_ _ | refine blk_drew ?_ | refine blk_alloc ?_ _)); exact BK279.out) hb)
             have n18_ := Aside0.mk (below_step (by repeat (first | (with_reducible first | exact HB.out | apply below_alloc | apply pw_below_drewN | apply below_drew1 | refine below_set ?_ GE239.out | refine below_set ?_ GE243.out | refine below_set ?_ GE254.out | refine below_set ?_ GE255.out | refine below_set ?_ GE266.out | refine below_set ?_ GE267.out | refine below_set ?_ GE278.out | refine below_set ?_ GE279.out) | exact HB.out)) hb)
             clear HO248
             clear HO251
             clear HO260
             clear HO263
             clear HO272
             clear HO275
             clear HO285
             clear HO290
             clear HO296
             clear BK239
             clear BK243
             clear BK254
             clear BK255
             clear BK266
             clear BK267
             clear BK278
             clear BK279
             clear HB
             have HO248 := n0_
             have HO251 := n1_
             have HO260 := n2_
             have HO263 := n3_
             have HO272 := n4_
             have HO275 := n5_
             have HO285 := n6_
             have HO290 := n7_
             have HO296 := n8_
             have HO301 := n9_
             have BK239 := n10_
             have BK243 := n11_
             have BK254 := n12_
             have BK255 := n13_
             have BK266 := n14_
             have BK267 := n15_
             have BK278 := n16_
             have BK279 := n17_
             have HB := n18_
             clear n0_ n1_ n2_ n3_ n4_ n5_ n6_ n7_ n8_ n9_ n10_ n11_ n12_ n13_ n14_ n15_ n16_ n17_ n18_
             (try clear hb)
             (try clear hb2)
             (try clear hk)
             (try clear hi)
             (try clear ho0)
             obtain ⟨Ao118, co118, eo118⟩ := Kd.V_slice HO296.out
             (first | subst eo118 | (injection eo118 with f1_ f2_ f3_; have f4_ := f1_.symm; have f5_ := f3_.symm; clear f1_ f2_ f3_; subst f4_; subst f5_))
             obtain ⟨Ao119, co119, eo119⟩ := Kd.V_slice HO301.out
             (first | subst eo119 | (injection eo119 with f1_ f2_ f3_; have f4_ := f1_.symm; have f5_ := f3_.symm; clear f1_ f2_ f3_; subst f4_; subst f5_))
             refine hK.out _ _ ⟨(blk_cell BK255.out 0).trans rfl, (blk_cell BK255.out 1).trans rfl, (blk_cell BK254.out 0).trans rfl, (blk_cell BK254.out 1).trans rfl, (blk_cell BK254.out 2).trans rfl, (blk_cell BK239.out 0).trans rfl, (blk_cell BK239.out 1).trans rfl, (blk_cell BK239.out 2).trans rfl, (blk_cell BK267.out 0).trans rfl, (blk_cell BK267.out 1).trans rfl, (blk_cell BK279.out 0).trans rfl, (blk_cell BK279.out 1).trans rfl, (blk_cell BK266.out 0).trans rfl, (blk_cell BK266.out 1).trans rfl, (blk_cell BK266.out 2).trans rfl, (blk_cell BK278.out 0).trans rfl, (blk_cell BK278.out 1).trans rfl, (blk_cell BK278.out 2).trans rfl⟩ (fun hHeld => ?_)
             clear hK K
             refine norm_ (a' := ?_) ?_ ?_
             rotate_left
             ·
              show Act.put _ (some 118) _ = _
              simp only [Act.put, List.setIfInBounds_toArray, List.set_cons_zero, List.set_cons_succ, i64_w, i32_w]
              rfl
             refine one_ (i := 50) (N := some 119) #[true, true, true, true, true, true, true, true, true, true, true, true, true, true, true, true, true, true, true, true, true, true, true, true, true, true, true, true, true, true, true, true, true, true, true, true, true, true, true, true, true, true, true, true, true, true, true, true, true, true, true, false, false, false, false, false] rfl rfl (one_of HT_.out (by kernel_rfl)) (by decide) (fun K hK => ?_)
             refine goes_ Try.func11 (by kernel_rfl) rfl #[.agg #[.int .i64 t292, .int .u64 t293, .slice Ao118 t294.length co118], .agg #[.int .i64 t297, .int .u64 t298, .slice Ao119 t299.length co119]] (by rfl) rfl rfl (by (try simp only [List.map_toArray, List.map_cons, List.map_nil]); first | done | rfl | (simp only [List.length_drop, List.length_take]; rfl)) ?_
             with_reducible refine (samphireref17_Same.calls kj3 t292 t293 _ _ t294 t297 t298 _ _ t299 true _ ?side1 ?side2 ?side3 ?side4 A44.out).mono ?_
             (case side1 => repeat (first | exact (Kd.V_reads' HO296.out).2.2 | (with_reducible refine Kd.C_alloc ?_ _) | (with_reducible refine Kd.C_drewN ?_ _) | (with_reducible refine Kd.C_drew ?_)))
             (case side2 => exact (Kd.V_reads' HO296.out).2.1)
             (case side3 => repeat (first | exact (Kd.V_reads' HO301.out).2.2 | (with_reducible refine Kd.C_alloc ?_ _) | (with_reducible refine Kd.C_drewN ?_ _) | (with_reducible refine Kd.C_drew ?_)))
             (case side4 => exact (Kd.V_reads' HO301.out).2.1)
             rintro e w120 ⟨rfl, hb⟩
             refine ⟨_, rfl, ?_⟩
             have n0_ := Aside0.mk (Kd.V_below (by (with_reducible repeat (first | apply Kd.V_alloc | apply Kd.V_drewN | apply Kd.V_drew)); exact HO248.out) hb)
             have n1_ := Aside0.mk (Kd.V_below (by (with_reducible repeat (first | apply Kd.V_alloc | apply Kd.V_drewN | apply Kd.V_drew)); exact HO251.out) hb)
             have n2_ := Aside0.mk (Kd.V_below (by (with_reducible repeat (first | apply Kd.V_alloc | apply Kd.V_drewN | apply Kd.V_drew)); exact HO260.out) hb)
             have n3_ := Aside0.mk (Kd.V_below (by (with_reducible repeat (first | apply Kd.V_alloc | apply Kd.V_drewN | apply Kd.V_drew)); exact HO263.out) hb)
             have n4_ := Aside0.mk (Kd.V_below (by (with_reducible repeat (first | apply Kd.V_alloc | apply Kd.V_drewN | apply Kd.V_drew)); exact HO272.out) hb)
             have n5_ := Aside0.mk (Kd.V_below (by (with_reducible repeat (first | apply Kd.V_alloc | apply Kd.V_drewN | apply Kd.V_drew)); exact HO275.out) hb)
             have n6_ := Aside0.mk (Kd.V_below (by (with_reducible repeat (first | apply Kd.V_alloc | apply Kd.V_drewN | apply Kd.V_drew)); exact HO285.out) hb)
             have n7_ := Aside0.mk (Kd.V_below (by (with_reducible repeat (first | apply Kd.V_alloc | apply Kd.V_drewN | apply Kd.V_drew)); exact HO290.out) hb)
             have n8_ := Aside0.mk (Kd.V_below (by (with_reducible repeat (first | apply Kd.V_alloc | apply Kd.V_drewN | apply Kd.V_drew)); exact HO296.out) hb)
             have n9_ := Aside0.mk (Kd.V_below (by (with_reducible repeat (first | apply Kd.V_alloc | apply Kd.V_drewN | apply Kd.V_drew)); exact HO301.out) hb)
             have n10_ := Aside0.mk (blk_below (g := gb239) (o := .cells #[.int .i64 a0_0, .int .u64 a0_1, .slice A0_2 l0_2.length c0_2] 27 (0, 0)) (by (with_reducible repeat (first | refine blk_drewN ?_ _ | refine blk_drew ?_ | refine blk_alloc ?_ _)); exact BK239.out) hb)
             have n11_ := Aside0.mk (blk_below (g := gb243) (o := .cells #[.int .i64 a0_0, .int .u64 0, .slice none 0 0] 27 (0, 0)) (by (with_reducible repeat (first | refine blk_drewN ?_ _ | refine blk_drew ?_ | refine blk_alloc ?_ _)); exact BK243.out) hb)
             have n12_ := Aside0.mk (blk_below (g := gb254) (o := .cells #[.int .i64 t244, .int .u64 t245, .slice Ao60 t246.length co60] 27 (0, 0)) (by (with_reducible repeat (first | refine blk_drewN ?_ _ | refine blk_drew ?_ | refine blk_alloc ?_ _)); exact BK254.out) hb)
             have n13_ := Aside0.mk (blk_below (g := gb255) (o := .cells #[.slice Ao62 t249.length co62, .int .i64 t252] 33 (0, 0)) (by (with_reducible repeat (first | refine blk_drewN ?_ _ | refine blk_drew ?_ | refine blk_alloc ?_ _)); exact BK255.out) hb)
             have n14_ := Aside0.mk (blk_below (g := gb266) (o := .cells #[.int .i64 t256, .int .u64 t257, .slice Ao78 t258.length co78] 27 (0, 0)) (by (with_reducible repeat (first | refine blk_drewN ?_ _ | refine blk_drew ?_ | refine blk_alloc ?_ _)); exact BK266.out) hb)
             have n15_ := Aside0.mk (blk_below (g := gb267) (o := .cells #[.slice Ao80 t261.length co80, .int .i64 t264] 33 (0, 0)) (by (with_reducible repeat (first | refine blk_drewN ?_ _ | refine blk_drew ?_ | refine blk_alloc ?_ _)); exact BK267.out) hb)
             have n16_ := Aside0.mk (blk_below (g := gb278) (o := .cells #[.int .i64 t268, .int .u64 t269, .slice Ao100 t270.length co100] 27 (0, 0)) (by (with_reducible repeat (first | refine blk_drewN ?_ _ | refine blk_drew ?_ | refine blk_alloc ?_ _)); exact BK278.out) hb)
             have n17_ := Aside0.mk (blk_below (g := gb279) (o := .cells #[.slice Ao101 t273.length co101, .int .i64 t276] 33 (0, 0)) (by (with_reducible repeat (first | refine blk_drewN ?_ _ | refine blk_drew ?_ | refine blk_alloc ?_ _)); exact BK279.out) hb)
             have n18_ := Aside0.mk (below_step (by repeat (first | (with_reducible first | exact HB.out | apply below_alloc | apply pw_below_drewN | apply below_drew1 | refine below_set ?_ GE239.out | refine below_set ?_ GE243.out | refine below_set ?_ GE254.out | refine below_set ?_ GE255.out | refine below_set ?_ GE266.out | refine below_set ?_ GE267.out | refine below_set ?_ GE278.out | refine below_set ?_ GE279.out) | exact HB.out)) hb)
             clear HO248
             clear HO251
             clear HO260
             clear HO263
             clear HO272
             clear HO275
             clear HO285
             clear HO290
             clear HO296
             clear HO301
             clear BK239
             clear BK243
             clear BK254
             clear BK255
             clear BK266
             clear BK267
             clear BK278
             clear BK279
             clear HB
             have HO248 := n0_
             have HO251 := n1_
             have HO260 := n2_
             have HO263 := n3_
             have HO272 := n4_
             have HO275 := n5_
             have HO285 := n6_
             have HO290 := n7_
             have HO296 := n8_
             have HO301 := n9_
             have BK239 := n10_
             have BK243 := n11_
             have BK254 := n12_
             have BK255 := n13_
             have BK266 := n14_
             have BK267 := n15_
             have BK278 := n16_
             have BK279 := n17_
             have HB := n18_
             clear n0_ n1_ n2_ n3_ n4_ n5_ n6_ n7_ n8_ n9_ n10_ n11_ n12_ n13_ n14_ n15_ n16_ n17_ n18_
             (try clear hb)
             (try clear hb2)
             (try clear hk)
             (try clear hi)
             refine hK.out _ _ ⟨(blk_cell BK255.out 0).trans rfl, (blk_cell BK255.out 1).trans rfl, (blk_cell BK254.out 0).trans rfl, (blk_cell BK254.out 1).trans rfl, (blk_cell BK254.out 2).trans rfl, (blk_cell BK239.out 0).trans rfl, (blk_cell BK239.out 1).trans rfl, (blk_cell BK239.out 2).trans rfl, (blk_cell BK267.out 0).trans rfl, (blk_cell BK267.out 1).trans rfl, (blk_cell BK279.out 0).trans rfl, (blk_cell BK279.out 1).trans rfl, (blk_cell BK266.out 0).trans rfl, (blk_cell BK266.out 1).trans rfl, (blk_cell BK266.out 2).trans rfl, (blk_cell BK278.out 0).trans rfl, (blk_cell BK278.out 1).trans rfl, (blk_cell BK278.out 2).trans rfl⟩ (fun hHeld => ?_)
             clear hK K
             refine norm_ (a' := ?_) ?_ ?_
             rotate_left
             ·
              show Act.put _ (some 119) _ = _
              simp only [Act.put, List.setIfInBounds_toArray, List.set_cons_zero, List.set_cons_succ, i64_w, i32_w]
              rfl
             refine pure_ (i := 51) (N := some 120) (v := ?_) (a' := ?_) #[true, true, true, true, true, true, true, true, true, true, true, true, true, true, true, true, true, true, true, true, true, true, true, true, true, true, true, true, true, true, true, true, true, true, true, true, true, true, true, true, true, true, true, true, true, true, true, true, true, true, true, true, false, false, false, false] rfl rfl (any_of HT_.out (by kernel_rfl)) (fun _ _ _ h => h) (Or.inl ⟨by rfl, ?_⟩) ?_ ?_
             rotate_left
             ·
              intro w'
              go_simp
              with_reducible rfl
             rotate_left
             ·
              simp only [Act.put, List.setIfInBounds_toArray, List.set_cons_zero, List.set_cons_succ, i64_w, i32_w]
              rfl
             refine pure_ (i := 52) (N := some 121) (v := ?_) (a' := ?_) #[true, true, true, true, true, true, true, true, true, true, true, true, true, true, true, true, true, true, true, true, true, true, true, true, true, true, true, true, true, true, true, true, true, true, true, true, true, true, true, true, true, true, true, true, true, true, true, true, true, true, true, true, true, false, false, false] rfl rfl (any_of HT_.out (by kernel_rfl)) (fun _ _ _ h => h) (Or.inl ⟨by rfl, ?_⟩) ?_ ?_
             rotate_left
             ·
              intro w'
              go_simp
              with_reducible rfl
             rotate_left
             ·
              simp only [Act.put, List.setIfInBounds_toArray, List.set_cons_zero, List.set_cons_succ, i64_w, i32_w]
              rfl
             refine one_ (i := 53) (N := some 122) #[true, true, true, true, true, true, true, true, true, true, true, true, true, true, true, true, true, true, true, true, true, true, true, true, true, true, true, true, true, true, true, true, true, true, true, true, true, true, true, true, true, true, true, true, true, true, true, true, true, true, true, true, true, true, false, false] rfl rfl (one_of HT_.out (by kernel_rfl)) (by decide) (fun K hK => ?_)
             refine goes_ Try.func9 (by kernel_rfl) rfl #[] (by rfl) rfl rfl (by (try simp only [List.map_toArray, List.map_cons, List.map_nil]); first | done | rfl | (simp only [List.length_drop, List.length_take]; rfl)) ?_
             with_reducible refine (samphirelaw17_awake.calls kj3  t303 _ A46.out).mono ?_
             rintro e w121 ⟨rfl, hb⟩
             refine ⟨_, rfl, ?_⟩
             have n0_ := Aside0.mk (Kd.V_below (by (with_reducible repeat (first | apply Kd.V_alloc | apply Kd.V_drewN | apply Kd.V_drew)); exact HO248.out) hb)
             have n1_ := Aside0.mk (Kd.V_below (by (with_reducible repeat (first | apply Kd.V_alloc | apply Kd.V_drewN | apply Kd.V_drew)); exact HO251.out) hb)
             have n2_ := Aside0.mk (Kd.V_below (by (with_reducible repeat (first | apply Kd.V_alloc | apply Kd.V_drewN | apply Kd.V_drew)); exact HO260.out) hb)
             have n3_ := Aside0.mk (Kd.V_below (by (with_reducible repeat (first | apply Kd.V_alloc | apply Kd.V_drewN | apply Kd.V_drew)); exact HO263.out) hb)
             have n4_ := Aside0.mk (Kd.V_below (by (with_reducible repeat (first | apply Kd.V_alloc | apply Kd.V_drewN | apply Kd.V_drew)); exact HO272.out) hb)
             have n5_ := Aside0.mk (Kd.V_below (by (with_reducible repeat (first | apply Kd.V_alloc | apply Kd.V_drewN | apply Kd.V_drew)); exact HO275.out) hb)
             have n6_ := Aside0.mk (Kd.V_below (by (with_reducible repeat (first | apply Kd.V_alloc | apply Kd.V_drewN | apply Kd.V_drew)); exact HO285.out) hb)
             have n7_ := Aside0.mk (Kd.V_below (by (with_reducible repeat (first | apply Kd.V_alloc | apply Kd.V_drewN | apply Kd.V_drew)); exact HO290.out) hb)
             have n8_ := Aside0.mk (Kd.V_below (by (with_reducible repeat (first | apply Kd.V_alloc | apply Kd.V_drewN | apply Kd.V_drew)); exact HO296.out) hb)
             have n9_ := Aside0.mk (Kd.V_below (by (with_reducible repeat (first | apply Kd.V_alloc | apply Kd.V_drewN | apply Kd.V_drew)); exact HO301.out) hb)
             have n10_ := Aside0.mk (blk_below (g := gb239) (o := .cells #[.int .i64 a0_0, .int .u64 a0_1, .slice A0_2 l0_2.length c0_2] 27 (0, 0)) (by (with_reducible repeat (first | refine blk_drewN ?_ _ | refine blk_drew ?_ | refine blk_alloc ?_ _)); exact BK239.out) hb)
             have n11_ := Aside0.mk (blk_below (g := gb243) (o := .cells #[.int .i64 a0_0, .int .u64 0, .slice none 0 0] 27 (0, 0)) (by (with_reducible repeat (first | refine blk_drewN ?_ _ | refine blk_drew ?_ | refine blk_alloc ?_ _)); exact BK243.out) hb)
             have n12_ := Aside0.mk (blk_below (g := gb254) (o := .cells #[.int .i64 t244, .int .u64 t245, .slice Ao60 t246.length co60] 27 (0, 0)) (by (with_reducible repeat (first | refine blk_drewN ?_ _ | refine blk_drew ?_ | refine blk_alloc ?_ _)); exact BK254.out) hb)
             have n13_ := Aside0.mk (blk_below (g := gb255) (o := .cells #[.slice Ao62 t249.length co62, .int .i64 t252] 33 (0, 0)) (by (with_reducible repeat (first | refine blk_drewN ?_ _ | refine blk_drew ?_ | refine blk_alloc ?_ _)); exact BK255.out) hb)
             have n14_ := Aside0.mk (blk_below (g := gb266) (o := .cells #[.int .i64 t256, .int .u64 t257, .slice Ao78 t258.length co78] 27 (0, 0)) (by (with_reducible repeat (first | refine blk_drewN ?_ _ | refine blk_drew ?_ | refine blk_alloc ?_ _)); exact BK266.out) hb)
             have n15_ := Aside0.mk (blk_below (g := gb267) (o := .cells #[.slice Ao80 t261.length co80, .int .i64 t264] 33 (0, 0)) (by (with_reducible repeat (first | refine blk_drewN ?_ _ | refine blk_drew ?_ | refine blk_alloc ?_ _)); exact BK267.out) hb)
             have n16_ := Aside0.mk (blk_below (g := gb278) (o := .cells #[.int .i64 t268, .int .u64 t269, .slice Ao100 t270.length co100] 27 (0, 0)) (by (with_reducible repeat (first | refine blk_drewN ?_ _ | refine blk_drew ?_ | refine blk_alloc ?_ _)); exact BK278.out) hb)
             have n17_ := Aside0.mk (blk_below (g := gb279) (o := .cells #[.slice Ao101 t273.length co101, .int .i64 t276] 33 (0, 0)) (by (with_reducible repeat (first | refine blk_drewN ?_ _ | refine blk_drew ?_ | refine blk_alloc ?_ _)); exact BK279.out) hb)
             have n18_ := Aside0.mk (below_step (by repeat (first | (with_reducible first | exact HB.out | apply below_alloc | apply pw_below_drewN | apply below_drew1 | refine below_set ?_ GE239.out | refine below_set ?_ GE243.out | refine below_set ?_ GE254.out | refine below_set ?_ GE255.out | refine below_set ?_ GE266.out | refine below_set ?_ GE267.out | refine below_set ?_ GE278.out | refine below_set ?_ GE279.out) | exact HB.out)) hb)
             clear HO248
             clear HO251
             clear HO260
             clear HO263
             clear HO272
             clear HO275
             clear HO285
             clear HO290
             clear HO296
             clear HO301
             clear BK239
             clear BK243
             clear BK254
             clear BK255
             clear BK266
             clear BK267
             clear BK278
             clear BK279
             clear HB
             have HO248 := n0_
             have HO251 := n1_
             have HO260 := n2_
             have HO263 := n3_
             have HO272 := n4_
             have HO275 := n5_
             have HO285 := n6_
             have HO290 := n7_
             have HO296 := n8_
             have HO301 := n9_
             have BK239 := n10_
             have BK243 := n11_
             have BK254 := n12_
             have BK255 := n13_
             have BK266 := n14_
             have BK267 := n15_
             have BK278 := n16_
             have BK279 := n17_
             have HB := n18_
             clear n0_ n1_ n2_ n3_ n4_ n5_ n6_ n7_ n8_ n9_ n10_ n11_ n12_ n13_ n14_ n15_ n16_ n17_ n18_
             (try clear hb)
             (try clear hb2)
             (try clear hk)
             (try clear hi)
             refine hK.out _ _ ⟨(blk_cell BK255.out 0).trans rfl, (blk_cell BK255.out 1).trans rfl, (blk_cell BK254.out 0).trans rfl, (blk_cell BK254.out 1).trans rfl, (blk_cell BK254.out 2).trans rfl, (blk_cell BK239.out 0).trans rfl, (blk_cell BK239.out 1).trans rfl, (blk_cell BK239.out 2).trans rfl, (blk_cell BK267.out 0).trans rfl, (blk_cell BK267.out 1).trans rfl, (blk_cell BK279.out 0).trans rfl, (blk_cell BK279.out 1).trans rfl, (blk_cell BK266.out 0).trans rfl, (blk_cell BK266.out 1).trans rfl, (blk_cell BK266.out 2).trans rfl, (blk_cell BK278.out 0).trans rfl, (blk_cell BK278.out 1).trans rfl, (blk_cell BK278.out 2).trans rfl⟩ (fun hHeld => ?_)
             clear hK K
             refine norm_ (a' := ?_) ?_ ?_
             rotate_left
             ·
              show Act.put _ (some 122) _ = _
              simp only [Act.put, List.setIfInBounds_toArray, List.set_cons_zero, List.set_cons_succ, i64_w, i32_w]
              rfl
             refine pure_ (i := 54) (N := some 123) (v := ?_) (a' := ?_) #[true, true, true, true, true, true, true, true, true, true, true, true, true, true, true, true, true, true, true, true, true, true, true, true, true, true, true, true, true, true, true, true, true, true, true, true, true, true, true, true, true, true, true, true, true, true, true, true, true, true, true, true, true, true, true, false] rfl rfl (any_of HT_.out (by kernel_rfl)) (fun _ _ _ h => h) (Or.inl ⟨by rfl, ?_⟩) ?_ ?_
             rotate_left
             ·
              intro w'
              go_simp
              with_reducible rfl
             rotate_left
             ·
              simp only [Act.put, List.setIfInBounds_toArray, List.set_cons_zero, List.set_cons_succ, i64_w, i32_w]
              rfl
             refine pure_ (i := 55) (N := some 6) (v := ?_) (a' := ?_) #[true, true, true, true, true, true, true, true, true, true, true, true, true, true, true, true, true, true, true, true, true, true, true, true, true, true, true, true, true, true, true, true, true, true, true, true, true, true, true, true, true, true, true, true, true, true, true, true, true, true, true, true, true, true, true, true] rfl rfl (any_of HT_.out (by kernel_rfl)) (fun _ _ _ h => h) (Or.inl ⟨by rfl, ?_⟩) ?_ ?_
             rotate_left
             ·
              intro w'
              go_simp
              with_reducible rfl
             rotate_left
             ·
              simp only [Act.put, List.setIfInBounds_toArray, List.set_cons_zero, List.set_cons_succ, i64_w, i32_w]
              rfl
             refine done_ (done_of HT_.out (by kernel_rfl)) ?_
             try go_wp2
             go_ret
             exact ⟨by first | rfl | (simp [errW_none, errW_some] <;> rfl) | (simp [*, errW_none, errW_some] <;> rfl), by repeat (first | (with_reducible first | exact HB.out | apply below_alloc | apply pw_below_drewN | apply below_drew1 | refine below_set ?_ GE239.out | refine below_set ?_ GE243.out | refine below_set ?_ GE254.out | refine below_set ?_ GE255.out | refine below_set ?_ GE266.out | refine below_set ?_ GE267.out | refine below_set ?_ GE278.out | refine below_set ?_ GE279.out) | exact HB.out)⟩
            ·
             replace c45 := Bool.eq_false_iff.mpr c45
             subst c45
             have H1 : (none) = some r := by rw [if_neg (show ¬ (false = true) by decide)] at H; exact H
             clear H
             have H := H1
             clear H1
             exact absurd H (by simp)
           ·
            replace c41 := Bool.eq_false_iff.mpr c41
            subst c41
            have H1 : (none) = some r := by rw [if_neg (show ¬ (false = true) by decide)] at H; exact H
            clear H
            have H := H1
            clear H1
            exact absurd H (by simp)
          ·
           rw [if_neg c37] at H
           exact absurd H (by simp)
         ·
          rw [if_neg c36] at H
          exact absurd H (by simp)
        ·
         rw [if_neg c35] at H
         exact absurd H (by simp)
       ·
        rw [if_neg c34] at H
        exact absurd H (by simp)
      ·
       rw [if_neg c33] at H
       exact absurd H (by simp)
     ·
      rw [if_neg c31] at H
      exact absurd H (by simp)
    ·
     rw [if_neg c30] at H
     exact absurd H (by simp)

end Go.Proofs.Ytabfaoghacamlaa.F
