/- Walks of Go functions, each against a plain function over numbers and lists; written by this session's program printx.py over the kit's print; no condition but those that each theorem states. -/
import Derived.Test.YtobdhjnaglikaaaQx0
import Derived.Test.YtobdhjnaglikaaaQx1
import Derived.Test.YtobdhjnaglikaaaQx2
import Derived.Test.YtobdhjnaglikaaaQx3
import Derived.Test.YtobdhjnaglikaaaQx5
import Derived.Test.YtobdhjnaglikaaaQx7
import Derived.Test.YtobdhjnaglikaaaQx8
import Derived.Test.YtobdhjnaglikaaaQx10
namespace Go.Proofs.Ytobdhjnaglikaaa.Q
open Go.RowKit Go.Proofs.YtobdhjnaglikaaaW.PrintWords Go.Proofs.YtobdhjnaglikaaaW.PrintLast Go.Proofs.YtobdhjnaglikaaaW.PrintMore
attribute [local go_sem] max2_int min2_int max_two min_two max_three min_three max_four min_four   -- for this text's walks alone
set_option linter.unusedVariables false
set_option linter.unusedSimpArgs false

attribute [local go_sem high] eqA25
/-! ### samphirelaw11_HeapStays: function 6 -/
mutual
def samphirelaw11_HeapStays.j0 : Nat → List (S25) → Int → Bool → ByteArray → Int → Int → Option (Bool)
 | 0, _, _, _, _, _, _ => none
 | k + 1, x0, x1, x28, x257000, x257001, x257002 => if x28 = true then ((samphirelaw11_awake.f k).bind fun t260 => (some t260)) else (if x1 ≥ 0 then (samphirelaw11_HeapStays.j1 k x0 x1 (decide (x1 < (x0.length : Int))) x257000 x257001 x257002) else (samphirelaw11_HeapStays.j1 k x0 x1 false x257000 x257001 x257002))
def samphirelaw11_HeapStays.j1 : Nat → List (S25) → Int → Bool → ByteArray → Int → Int → Option (Bool)
 | 0, _, _, _, _, _, _ => none
 | k + 1, x0, x1, x37, x257000, x257001, x257002 => if x37 = true then (if 0 ≤ x1 then (if x1 < (x0.length : Int) then ((heap_Put.f k x0 x1 ((rd_T25 x0 x1).f0) ((rd_T25 x0 x1).f1) ((rd_T25 x0 x1).f2)).bind fun bt262 => (if bt262.2 = 0 then ((samphireref10_Same.f k bt262.1 x0).bind fun t266 => (if t266 = true then (samphirelaw11_HeapStays.j2 k x0 x257000 x257001 x257002) else (some false))) else (some false))) else (none)) else (none)) else (samphirelaw11_HeapStays.j2 k x0 x257000 x257001 x257002)
def samphirelaw11_HeapStays.j2 : Nat → List (S25) → ByteArray → Int → Int → Option (Bool)
 | 0, _, _, _, _ => none
 | k + 1, x0, x257000, x257001, x257002 => samphirelaw11_HeapStays.l0 k x0 x0 (x0.length : Int) 0 x257000 x257001 x257002
def samphirelaw11_HeapStays.l0 : Nat → List (S25) → List (S25) → Int → Int → ByteArray → Int → Int → Option (Bool)
 | 0, _, _, _, _, _, _, _ => none
 | k + 1, x0, x56, x57, x58, x257000, x257001, x257002 => if x58 < x57 then (if 0 ≤ x58 then (if x58 < (x56.length : Int) then ((rank_Cmp.f k ((rd_T25 x56 x58).f0) ((rd_T25 x56 x58).f1) ((rd_T25 x56 x58).f2) x257000 x257001 x257002).bind fun t269 => (if t269 ≥ 0 then ((samphirelaw11_awake.f k).bind fun t270 => (some t270)) else (samphirelaw11_HeapStays.l0 k x0 x56 x57 (wrap64 (x58 + 1)) x257000 x257001 x257002))) else (none)) else (none)) else ((heap_Push.f k x0 x257000 x257001 x257002).bind fun bt271 => ((heap_Pop.f k bt271.1).bind fun bt275 => (if bt271.2 = 0 then (if bt275.2.2.2.2 = 0 then (if (bt275.1.toList == x257000.toList && (bt275.2.1 == x257001 && (bt275.2.2.1 == x257002))) = true then (if (bt275.2.2.2.1.length : Int) = (x0.length : Int) then ((heap_Right.f k bt275.2.2.2.1).bind fun t283 => (if t283 = true then ((samphirelaw11_awake.f k).bind fun t284 => (some t284)) else (some false))) else (some false)) else (some false)) else (some false)) else (some false))))
end
def samphirelaw11_HeapStays.f (k : Nat) (l0 : List (S25)) (a1 : Int) (a2_0 : ByteArray) (a2_1 : Int) (a2_2 : Int) : Option (Bool) := (samphireref10_Small.f k l0).bind fun t257 => (if t257 = true then ((heap_Right.f k l0).bind fun t258 => (if t258 = true then ((rank_Check.f a2_0 a2_1 a2_2).bind fun t259 => (samphirelaw11_HeapStays.j0 k l0 a1 (t259 != 0) a2_0 a2_1 a2_2)) else (samphirelaw11_HeapStays.j0 k l0 a1 true a2_0 a2_1 a2_2))) else (samphirelaw11_HeapStays.j0 k l0 a1 true a2_0 a2_1 a2_2))
theorem samphirelaw11_HeapStays.mono_l : ∀ k, (∀ y0 y1 y2 y3 y4 y5, LeO (samphirelaw11_HeapStays.j0 k y0 y1 y2 y3 y4 y5) (samphirelaw11_HeapStays.j0 (k + 1) y0 y1 y2 y3 y4 y5)) ∧ (∀ y0 y1 y2 y3 y4 y5, LeO (samphirelaw11_HeapStays.j1 k y0 y1 y2 y3 y4 y5) (samphirelaw11_HeapStays.j1 (k + 1) y0 y1 y2 y3 y4 y5)) ∧ (∀ y0 y1 y2 y3, LeO (samphirelaw11_HeapStays.j2 k y0 y1 y2 y3) (samphirelaw11_HeapStays.j2 (k + 1) y0 y1 y2 y3)) ∧ (∀ y0 y1 y2 y3 y4 y5 y6, LeO (samphirelaw11_HeapStays.l0 k y0 y1 y2 y3 y4 y5 y6) (samphirelaw11_HeapStays.l0 (k + 1) y0 y1 y2 y3 y4 y5 y6))
 | 0 => ⟨fun _ _ _ _ _ _ r h => by simp [samphirelaw11_HeapStays.j0] at h, fun _ _ _ _ _ _ r h => by simp [samphirelaw11_HeapStays.j1] at h, fun _ _ _ _ r h => by simp [samphirelaw11_HeapStays.j2] at h, fun _ _ _ _ _ _ _ r h => by simp [samphirelaw11_HeapStays.l0] at h⟩
 | k + 1 => by
  obtain ⟨ih0, ih1, ih2, ih3⟩ := samphirelaw11_HeapStays.mono_l k
  refine ⟨?_, ?_, ?_, ?_⟩
  ·
   intro y0 y1 y2 y3 y4 y5
   unfold samphirelaw11_HeapStays.j0
   repeat' first
   | (with_reducible exact ih0 _ _ _ _ _ _)
   | (with_reducible exact ih1 _ _ _ _ _ _)
   | (with_reducible exact ih2 _ _ _ _)
   | (with_reducible exact ih3 _ _ _ _ _ _ _)
   | (with_reducible exact heap_Pop.mono _ _)
   | (with_reducible exact heap_Push.mono _ _ _ _ _)
   | (with_reducible exact heap_Put.mono _ _ _ _ _ _)
   | (with_reducible exact heap_Right.mono _ _)
   | (with_reducible exact rank_Cmp.mono _ _ _ _ _ _ _)
   | (with_reducible exact samphirelaw11_awake.mono _)
   | (with_reducible exact samphireref10_Same.mono _ _ _)
   | (with_reducible exact samphireref10_Small.mono _ _)
   | (with_reducible exact LeO.refl _)
   | (with_reducible exact LeO.none _)
   | (with_reducible refine LeO.ite ?_ ?_)
   | (with_reducible refine LeO.bind ?_ (fun _ => ?_))
   | exact ih0 _ _ _ _ _ _
   | exact ih1 _ _ _ _ _ _
   | exact ih2 _ _ _ _
   | exact ih3 _ _ _ _ _ _ _
   | exact heap_Pop.mono _ _
   | exact heap_Push.mono _ _ _ _ _
   | exact heap_Put.mono _ _ _ _ _ _
   | exact heap_Right.mono _ _
   | exact rank_Cmp.mono _ _ _ _ _ _ _
   | exact samphirelaw11_awake.mono _
   | exact samphireref10_Same.mono _ _ _
   | exact samphireref10_Small.mono _ _
   | exact LeO.none _
   | refine LeO.ite ?_ ?_
   | refine LeO.bind ?_ (fun _ => ?_)
  ·
   intro y0 y1 y2 y3 y4 y5
   unfold samphirelaw11_HeapStays.j1
   repeat' first
   | (with_reducible exact ih0 _ _ _ _ _ _)
   | (with_reducible exact ih1 _ _ _ _ _ _)
   | (with_reducible exact ih2 _ _ _ _)
   | (with_reducible exact ih3 _ _ _ _ _ _ _)
   | (with_reducible exact heap_Pop.mono _ _)
   | (with_reducible exact heap_Push.mono _ _ _ _ _)
   | (with_reducible exact heap_Put.mono _ _ _ _ _ _)
   | (with_reducible exact heap_Right.mono _ _)
   | (with_reducible exact rank_Cmp.mono _ _ _ _ _ _ _)
   | (with_reducible exact samphirelaw11_awake.mono _)
   | (with_reducible exact samphireref10_Same.mono _ _ _)
   | (with_reducible exact samphireref10_Small.mono _ _)
   | (with_reducible exact LeO.refl _)
   | (with_reducible exact LeO.none _)
   | (with_reducible refine LeO.ite ?_ ?_)
   | (with_reducible refine LeO.bind ?_ (fun _ => ?_))
   | exact ih0 _ _ _ _ _ _
   | exact ih1 _ _ _ _ _ _
   | exact ih2 _ _ _ _
   | exact ih3 _ _ _ _ _ _ _
   | exact heap_Pop.mono _ _
   | exact heap_Push.mono _ _ _ _ _
   | exact heap_Put.mono _ _ _ _ _ _
   | exact heap_Right.mono _ _
   | exact rank_Cmp.mono _ _ _ _ _ _ _
   | exact samphirelaw11_awake.mono _
   | exact samphireref10_Same.mono _ _ _
   | exact samphireref10_Small.mono _ _
   | exact LeO.none _
   | refine LeO.ite ?_ ?_
   | refine LeO.bind ?_ (fun _ => ?_)
  ·
   intro y0 y1 y2 y3
   unfold samphirelaw11_HeapStays.j2
   repeat' first
   | (with_reducible exact ih0 _ _ _ _ _ _)
   | (with_reducible exact ih1 _ _ _ _ _ _)
   | (with_reducible exact ih2 _ _ _ _)
   | (with_reducible exact ih3 _ _ _ _ _ _ _)
   | (with_reducible exact heap_Pop.mono _ _)
   | (with_reducible exact heap_Push.mono _ _ _ _ _)
   | (with_reducible exact heap_Put.mono _ _ _ _ _ _)
   | (with_reducible exact heap_Right.mono _ _)
   | (with_reducible exact rank_Cmp.mono _ _ _ _ _ _ _)
   | (with_reducible exact samphirelaw11_awake.mono _)
   | (with_reducible exact samphireref10_Same.mono _ _ _)
   | (with_reducible exact samphireref10_Small.mono _ _)
   | (with_reducible exact LeO.refl _)
   | (with_reducible exact LeO.none _)
   | (with_reducible refine LeO.ite ?_ ?_)
   | (with_reducible refine LeO.bind ?_ (fun _ => ?_))
   | exact ih0 _ _ _ _ _ _
   | exact ih1 _ _ _ _ _ _
   | exact ih2 _ _ _ _
   | exact ih3 _ _ _ _ _ _ _
   | exact heap_Pop.mono _ _
   | exact heap_Push.mono _ _ _ _ _
   | exact heap_Put.mono _ _ _ _ _ _
   | exact heap_Right.mono _ _
   | exact rank_Cmp.mono _ _ _ _ _ _ _
   | exact samphirelaw11_awake.mono _
   | exact samphireref10_Same.mono _ _ _
   | exact samphireref10_Small.mono _ _
   | exact LeO.none _
   | refine LeO.ite ?_ ?_
   | refine LeO.bind ?_ (fun _ => ?_)
  ·
   intro y0 y1 y2 y3 y4 y5 y6
   unfold samphirelaw11_HeapStays.l0
   repeat' first
   | (with_reducible exact ih0 _ _ _ _ _ _)
   | (with_reducible exact ih1 _ _ _ _ _ _)
   | (with_reducible exact ih2 _ _ _ _)
   | (with_reducible exact ih3 _ _ _ _ _ _ _)
   | (with_reducible exact heap_Pop.mono _ _)
   | (with_reducible exact heap_Push.mono _ _ _ _ _)
   | (with_reducible exact heap_Put.mono _ _ _ _ _ _)
   | (with_reducible exact heap_Right.mono _ _)
   | (with_reducible exact rank_Cmp.mono _ _ _ _ _ _ _)
   | (with_reducible exact samphirelaw11_awake.mono _)
   | (with_reducible exact samphireref10_Same.mono _ _ _)
   | (with_reducible exact samphireref10_Small.mono _ _)
   | (with_reducible exact LeO.refl _)
   | (with_reducible exact LeO.none _)
   | (with_reducible refine LeO.ite ?_ ?_)
   | (with_reducible refine LeO.bind ?_ (fun _ => ?_))
   | exact ih0 _ _ _ _ _ _
   | exact ih1 _ _ _ _ _ _
   | exact ih2 _ _ _ _
   | exact ih3 _ _ _ _ _ _ _
   | exact heap_Pop.mono _ _
   | exact heap_Push.mono _ _ _ _ _
   | exact heap_Put.mono _ _ _ _ _ _
   | exact heap_Right.mono _ _
   | exact rank_Cmp.mono _ _ _ _ _ _ _
   | exact samphirelaw11_awake.mono _
   | exact samphireref10_Same.mono _ _ _
   | exact samphireref10_Small.mono _ _
   | exact LeO.none _
   | refine LeO.ite ?_ ?_
   | refine LeO.bind ?_ (fun _ => ?_)
theorem samphirelaw11_HeapStays.mono : ∀ a0 a1 a2 a3 a4 k, LeO (samphirelaw11_HeapStays.f k a0 a1 a2 a3 a4) (samphirelaw11_HeapStays.f (k + 1) a0 a1 a2 a3 a4) := by
 intro a0 a1 a2 a3 a4 k
 obtain ⟨ih0, ih1, ih2, ih3⟩ := samphirelaw11_HeapStays.mono_l k
 unfold samphirelaw11_HeapStays.f
 repeat' first
   | (with_reducible exact ih0 _ _ _ _ _ _)
   | (with_reducible exact ih1 _ _ _ _ _ _)
   | (with_reducible exact ih2 _ _ _ _)
   | (with_reducible exact ih3 _ _ _ _ _ _ _)
   | (with_reducible exact heap_Pop.mono _ _)
   | (with_reducible exact heap_Push.mono _ _ _ _ _)
   | (with_reducible exact heap_Put.mono _ _ _ _ _ _)
   | (with_reducible exact heap_Right.mono _ _)
   | (with_reducible exact rank_Cmp.mono _ _ _ _ _ _ _)
   | (with_reducible exact samphirelaw11_awake.mono _)
   | (with_reducible exact samphireref10_Same.mono _ _ _)
   | (with_reducible exact samphireref10_Small.mono _ _)
   | (with_reducible exact LeO.refl _)
   | (with_reducible exact LeO.none _)
   | (with_reducible refine LeO.ite ?_ ?_)
   | (with_reducible refine LeO.bind ?_ (fun _ => ?_))
   | exact ih0 _ _ _ _ _ _
   | exact ih1 _ _ _ _ _ _
   | exact ih2 _ _ _ _
   | exact ih3 _ _ _ _ _ _ _
   | exact heap_Pop.mono _ _
   | exact heap_Push.mono _ _ _ _ _
   | exact heap_Put.mono _ _ _ _ _ _
   | exact heap_Right.mono _ _
   | exact rank_Cmp.mono _ _ _ _ _ _ _
   | exact samphirelaw11_awake.mono _
   | exact samphireref10_Same.mono _ _ _
   | exact samphireref10_Small.mono _ _
   | exact LeO.none _
   | refine LeO.ite ?_ ?_
   | refine LeO.bind ?_ (fun _ => ?_)
set_option maxHeartbeats 8000000 in
set_option maxRecDepth 100000 in
theorem samphirelaw11_HeapStays.calls (k : Nat) (A0 : Option Addr) (c0 : Nat) (l0 : List (S25)) (a1 : Int) (a2_0 : ByteArray) (a2_1 : Int) (a2_2 : Int) (r : Bool) (w : World) (hr0 : Kd.C k25 w A0 l0.length l0) (hc0 : l0.length ≤ c0) (h : samphirelaw11_HeapStays.f k l0 a1 a2_0 a2_1 a2_2 = some r) :
  Calls Try.prog 6 #[.slice A0 l0.length c0, .int .i64 a1, .agg #[.string a2_0, .int .u64 a2_1, .int .u64 a2_2]] w fun e w' => e = .returned (.bool r) ∧ Below w.heap.size w w' := by
 have hu25 := Try.underlying25
 have HR0 := Aside0.mk hr0
 have HC0 := Aside0.mk hc0
 clear hr0 hc0
 have HB := Aside0.mk (Below.refl w.heap.size w)
 have H : ((samphireref10_Small.f k l0).bind fun t257 => (if t257 = true then ((heap_Right.f k l0).bind fun t258 => (if t258 = true then ((rank_Check.f a2_0 a2_1 a2_2).bind fun t259 => (samphirelaw11_HeapStays.j0 k l0 a1 (t259 != 0) a2_0 a2_1 a2_2)) else (samphirelaw11_HeapStays.j0 k l0 a1 true a2_0 a2_1 a2_2))) else (samphirelaw11_HeapStays.j0 k l0 a1 true a2_0 a2_1 a2_2))) = some r := h
 clear h
 have HC4 := Aside0.mk H
 clear H
 go_enter Try.func6, Try.ntmps6
 go_upto_region 1 with (first | ((with_reducible refine gate_dst (N := 5) rfl ?_); (try (refine gate_guard (by rfl) ?_; dsimp only)); refine box_event ?hg (N := 5) ?hd (cs := #[.string a2_0, .int .u64 a2_1, .int .u64 a2_2]) (t := 25) ?hr ?_; (case hd => rfl); (case hg => rfl); (case hr => first | (go_simp; done) | (go_simp; rfl)); intro gb256 hg w5 hbox hb; have n0_ := Aside0.mk (below_step (by repeat (first | (with_reducible first | exact HB.out | apply below_alloc | apply pw_below_drewN | apply below_drew1) | exact HB.out)) hb); have n1_ := Aside0.mk (hbox); have n2_ := Aside0.mk ((by rw [hg]; exact (below_size (by repeat (first | (with_reducible first | exact HB.out | apply below_alloc | apply pw_below_drewN | apply below_drew1) | exact HB.out))) : w.heap.size ≤ gb256)); have n3_ := Aside0.mk ((by rw [hg]; exact (below_size (by repeat (first | (with_reducible first | exact HB.out | apply below_alloc | apply pw_below_drewN | apply below_drew1) | exact HB.out))) : w.heap.size ≤ gb256)); clear HB; have HB := n0_; have BK256 := n1_; have GW256 := n2_; have GE256 := n3_; clear n0_ n1_ n2_ n3_; clear hb hbox hg))
 (try simp only [Act.put, List.setIfInBounds_toArray, List.set_cons_zero, List.set_cons_succ])
 go_cut [28] (fun v28 wc => ∃ (kq : Nat) (x28_3 : Bool), v28 = .bool x28_3 ∧ Aside0 (samphirelaw11_HeapStays.j0 kq l0 a1 x28_3 a2_0 a2_1 a2_2 = some r) ∧ Aside0 (kq ≤ k) ∧ Aside0 (wc.heap[gb256]? = some (.cells #[.string a2_0, .int .u64 a2_1, .int .u64 a2_2] 25 (0, 0))) ∧ Aside0 (Below w.heap.size w wc))
 case first =>
  have H := HC4.out
  clear HC4
  replace H := Option.bind_eq_some_iff.mp H
  obtain ⟨t257, A60, H⟩ := H
  replace H : (if t257 = true then ((heap_Right.f k l0).bind fun t258 => (if t258 = true then ((rank_Check.f a2_0 a2_1 a2_2).bind fun t259 => (samphirelaw11_HeapStays.j0 k l0 a1 (t259 != 0) a2_0 a2_1 a2_2)) else (samphirelaw11_HeapStays.j0 k l0 a1 true a2_0 a2_1 a2_2))) else (samphirelaw11_HeapStays.j0 k l0 a1 true a2_0 a2_1 a2_2)) = some r := H
  have A6 := Aside0.mk A60
  clear A60
  by_cases c7 : t257 = true
  ·
   subst c7
   have H1 : ((heap_Right.f k l0).bind fun t258 => (if t258 = true then ((rank_Check.f a2_0 a2_1 a2_2).bind fun t259 => (samphirelaw11_HeapStays.j0 k l0 a1 (t259 != 0) a2_0 a2_1 a2_2)) else (samphirelaw11_HeapStays.j0 k l0 a1 true a2_0 a2_1 a2_2))) = some r := by rw [if_pos rfl] at H; exact H
   clear H
   have H := H1
   clear H1
   replace H := Option.bind_eq_some_iff.mp H
   obtain ⟨t258, A80, H⟩ := H
   replace H : (if t258 = true then ((rank_Check.f a2_0 a2_1 a2_2).bind fun t259 => (samphirelaw11_HeapStays.j0 k l0 a1 (t259 != 0) a2_0 a2_1 a2_2)) else (samphirelaw11_HeapStays.j0 k l0 a1 true a2_0 a2_1 a2_2)) = some r := H
   have A8 := Aside0.mk A80
   clear A80
   by_cases c9 : t258 = true
   ·
    subst c9
    have H1 : ((rank_Check.f a2_0 a2_1 a2_2).bind fun t259 => (samphirelaw11_HeapStays.j0 k l0 a1 (t259 != 0) a2_0 a2_1 a2_2)) = some r := by rw [if_pos rfl] at H; exact H
    clear H
    have H := H1
    clear H1
    replace H := Option.bind_eq_some_iff.mp H
    obtain ⟨t259, A100, H⟩ := H
    replace H : (samphirelaw11_HeapStays.j0 k l0 a1 (t259 != 0) a2_0 a2_1 a2_2) = some r := H
    have A10 := Aside0.mk A100
    clear A100
    have H' := Aside0.mk H
    clear H
    go_wp2_with (first | ((with_reducible refine gate_callee (f := 8) rfl ?_); refine goesL_ (some 17) rfl rfl Try.func8 (by kernel_rfl) rfl #[.slice A0 l0.length c0] rfl (by (try simp only [List.map_toArray, List.map_cons, List.map_nil]); first | done | rfl | (simp only [List.length_drop, List.length_take]; rfl)) ?_; (with_reducible refine (samphireref10_Small.calls k _ _ l0 true _ ?side1 ?side2 A6.out).mono ?_); (case side1 => repeat (first | exact (Kd.C_below HR0.out HB.out) | (with_reducible refine Kd.C_alloc ?_ _) | (with_reducible refine Kd.C_drewN ?_ _) | (with_reducible refine Kd.C_drew ?_))); (case side2 => exact HC0.out); rintro e w' ⟨rfl, ⟨nd, rfl⟩⟩; refine ⟨_, rfl, ?_⟩) | (go_at_call 15; (with_reducible refine (heap_Right.calls k _ _ l0 true _ ?side1 ?side2 A8.out).mono ?_); (case side1 => repeat (first | exact (Kd.C_below HR0.out (by repeat (first | (with_reducible first | exact HB.out | apply below_alloc | apply pw_below_drewN | apply below_drew1 | refine below_set ?_ GE256.out) | exact HB.out))) | (with_reducible refine Kd.C_alloc ?_ _) | (with_reducible refine Kd.C_drewN ?_ _) | (with_reducible refine Kd.C_drew ?_))); (case side2 => exact HC0.out); rintro e w11 ⟨rfl, hb⟩; have n0_ := Aside0.mk (blk_below (g := gb256) (o := .cells #[.string a2_0, .int .u64 a2_1, .int .u64 a2_2] 25 (0, 0)) (by (with_reducible repeat (first | refine blk_drewN ?_ _ | refine blk_drew ?_ | refine blk_alloc ?_ _)); exact BK256.out) hb); have n1_ := Aside0.mk (below_step (by repeat (first | (with_reducible first | exact HB.out | apply below_alloc | apply pw_below_drewN | apply below_drew1 | refine below_set ?_ GE256.out) | exact HB.out)) hb); clear BK256; clear HB; have BK256 := n0_; have HB := n1_; clear n0_ n1_; (try clear hb); (try clear hb2); (try clear hk); (try clear hi); have hcz12_0 : w11.cell? ⟨gb256, 0, none⟩ = some (.string a2_0) := (blk_cell BK256.out 0).trans rfl; have hcz12_1 : w11.cell? ⟨gb256, 1, none⟩ = some (.int .u64 a2_1) := (blk_cell BK256.out 1).trans rfl; have hcz12_2 : w11.cell? ⟨gb256, 2, none⟩ = some (.int .u64 a2_2) := (blk_cell BK256.out 2).trans rfl; have hfz12_0 := blk_frozen BK256.out 0; have hfz12_1 := blk_frozen BK256.out 1; have hfz12_2 := blk_frozen BK256.out 2) | (go_at_call 17; (with_reducible refine (rank_Check.calls a2_0 a2_1 a2_2 t259 _ A10.out).mono ?_); rintro e w13 ⟨rfl, hb⟩; have n0_ := Aside0.mk (blk_below (g := gb256) (o := .cells #[.string a2_0, .int .u64 a2_1, .int .u64 a2_2] 25 (0, 0)) (by (with_reducible repeat (first | refine blk_drewN ?_ _ | refine blk_drew ?_ | refine blk_alloc ?_ _)); exact BK256.out) hb); have n1_ := Aside0.mk (below_step (by repeat (first | (with_reducible first | exact HB.out | apply below_alloc | apply pw_below_drewN | apply below_drew1 | refine below_set ?_ GE256.out) | exact HB.out)) hb); clear BK256; clear HB; have BK256 := n0_; have HB := n1_; clear n0_ n1_; (try clear hb); (try clear hb2); (try clear hk); (try clear hi)))
    go_meet
    case rel => exact ⟨_, ((t259 != 0)), (by first | rfl | (simp; done) | (simp [*]; done)), H', ⟨by first | omega | exact Nat.le_refl _⟩, ⟨by (with_reducible repeat (first | refine blk_drewN ?_ _ | refine blk_drew ?_ | refine blk_alloc ?_ _)); exact BK256.out⟩, ⟨by repeat (first | (with_reducible first | exact HB.out | apply below_alloc | apply pw_below_drewN | apply below_drew1 | refine below_set ?_ GE256.out) | exact HB.out)⟩⟩
   ·
    replace c9 := Bool.eq_false_iff.mpr c9
    subst c9
    have H1 : (samphirelaw11_HeapStays.j0 k l0 a1 true a2_0 a2_1 a2_2) = some r := by rw [if_neg (show ¬ (false = true) by decide)] at H; exact H
    clear H
    have H := H1
    clear H1
    have H' := Aside0.mk H
    clear H
    go_wp2_with (first | ((with_reducible refine gate_callee (f := 8) rfl ?_); refine goesL_ (some 17) rfl rfl Try.func8 (by kernel_rfl) rfl #[.slice A0 l0.length c0] rfl (by (try simp only [List.map_toArray, List.map_cons, List.map_nil]); first | done | rfl | (simp only [List.length_drop, List.length_take]; rfl)) ?_; (with_reducible refine (samphireref10_Small.calls k _ _ l0 true _ ?side1 ?side2 A6.out).mono ?_); (case side1 => repeat (first | exact (Kd.C_below HR0.out HB.out) | (with_reducible refine Kd.C_alloc ?_ _) | (with_reducible refine Kd.C_drewN ?_ _) | (with_reducible refine Kd.C_drew ?_))); (case side2 => exact HC0.out); rintro e w' ⟨rfl, ⟨nd, rfl⟩⟩; refine ⟨_, rfl, ?_⟩) | (go_at_call 15; (with_reducible refine (heap_Right.calls k _ _ l0 false _ ?side1 ?side2 A8.out).mono ?_); (case side1 => repeat (first | exact (Kd.C_below HR0.out (by repeat (first | (with_reducible first | exact HB.out | apply below_alloc | apply pw_below_drewN | apply below_drew1 | refine below_set ?_ GE256.out) | exact HB.out))) | (with_reducible refine Kd.C_alloc ?_ _) | (with_reducible refine Kd.C_drewN ?_ _) | (with_reducible refine Kd.C_drew ?_))); (case side2 => exact HC0.out); rintro e w14 ⟨rfl, hb⟩; have n0_ := Aside0.mk (blk_below (g := gb256) (o := .cells #[.string a2_0, .int .u64 a2_1, .int .u64 a2_2] 25 (0, 0)) (by (with_reducible repeat (first | refine blk_drewN ?_ _ | refine blk_drew ?_ | refine blk_alloc ?_ _)); exact BK256.out) hb); have n1_ := Aside0.mk (below_step (by repeat (first | (with_reducible first | exact HB.out | apply below_alloc | apply pw_below_drewN | apply below_drew1 | refine below_set ?_ GE256.out) | exact HB.out)) hb); clear BK256; clear HB; have BK256 := n0_; have HB := n1_; clear n0_ n1_; (try clear hb); (try clear hb2); (try clear hk); (try clear hi)))
    go_meet
    case rel => exact ⟨_, (true), (by first | rfl | (simp; done) | (simp [*]; done)), H', ⟨by first | omega | exact Nat.le_refl _⟩, ⟨by (with_reducible repeat (first | refine blk_drewN ?_ _ | refine blk_drew ?_ | refine blk_alloc ?_ _)); exact BK256.out⟩, ⟨by repeat (first | (with_reducible first | exact HB.out | apply below_alloc | apply pw_below_drewN | apply below_drew1 | refine below_set ?_ GE256.out) | exact HB.out)⟩⟩
  ·
   replace c7 := Bool.eq_false_iff.mpr c7
   subst c7
   have H1 : (samphirelaw11_HeapStays.j0 k l0 a1 true a2_0 a2_1 a2_2) = some r := by rw [if_neg (show ¬ (false = true) by decide)] at H; exact H
   clear H
   have H := H1
   clear H1
   have H' := Aside0.mk H
   clear H
   go_wp2_with (first | ((with_reducible refine gate_callee (f := 8) rfl ?_); refine goesL_ (some 17) rfl rfl Try.func8 (by kernel_rfl) rfl #[.slice A0 l0.length c0] rfl (by (try simp only [List.map_toArray, List.map_cons, List.map_nil]); first | done | rfl | (simp only [List.length_drop, List.length_take]; rfl)) ?_; (with_reducible refine (samphireref10_Small.calls k _ _ l0 false _ ?side1 ?side2 A6.out).mono ?_); (case side1 => repeat (first | exact (Kd.C_below HR0.out HB.out) | (with_reducible refine Kd.C_alloc ?_ _) | (with_reducible refine Kd.C_drewN ?_ _) | (with_reducible refine Kd.C_drew ?_))); (case side2 => exact HC0.out); rintro e w' ⟨rfl, ⟨nd, rfl⟩⟩; refine ⟨_, rfl, ?_⟩))
   go_meet
   case rel => exact ⟨_, (true), (by first | rfl | (simp; done) | (simp [*]; done)), H', ⟨by first | omega | exact Nat.le_refl _⟩, ⟨by (with_reducible repeat (first | refine blk_drewN ?_ _ | refine blk_drew ?_ | refine blk_alloc ?_ _)); exact BK256.out⟩, ⟨by repeat (first | (with_reducible first | exact HB.out | apply below_alloc | apply pw_below_drewN | apply below_drew1 | refine below_set ?_ GE256.out) | exact HB.out)⟩⟩
 case rest =>
  clear HC4
  try clear p2
  try clear c6
  try clear c7
  try clear c8
  try clear c9
  try clear hcz12_0
  try clear hcz12_1
  try clear hcz12_2
  try clear hfz12_0
  try clear hfz12_1
  try clear hfz12_2
  obtain ⟨kq, x28_3, rfl, HA, HJ3, BK256, HB⟩ := hcut
  cases kq with
  | zero => exact absurd HA.out (by simp [samphirelaw11_HeapStays.j0])
  | succ kj3 =>
   have H := HA.out
   clear HA
   simp only [samphirelaw11_HeapStays.j0] at H
   by_cases c15 : x28_3 = true
   ·
    subst c15
    have H1 : ((samphirelaw11_awake.f kj3).bind fun t260 => (some t260)) = some r := by rw [if_pos rfl] at H; exact H
    clear H
    have H := H1
    clear H1
    replace H := Option.bind_eq_some_iff.mp H
    obtain ⟨t260, A160, H⟩ := H
    replace H : (some t260) = some r := H
    have A16 := Aside0.mk A160
    clear A160
    obtain rfl := Option.some.inj H
    go_wp2_with (first | ((with_reducible refine gate_callee (f := 9) rfl ?_); refine goesL_ (some 29) rfl rfl Try.func9 (by kernel_rfl) rfl #[] rfl (by (try simp only [List.map_toArray, List.map_cons, List.map_nil]); first | done | rfl | (simp only [List.length_drop, List.length_take]; rfl)) ?_; (with_reducible refine (samphirelaw11_awake.calls kj3  t260 _ A16.out).mono ?_); rintro e w17 ⟨rfl, hb⟩; refine ⟨_, rfl, ?_⟩; have n0_ := Aside0.mk (blk_below (g := gb256) (o := .cells #[.string a2_0, .int .u64 a2_1, .int .u64 a2_2] 25 (0, 0)) (by (with_reducible repeat (first | refine blk_drewN ?_ _ | refine blk_drew ?_ | refine blk_alloc ?_ _)); exact BK256.out) hb); have n1_ := Aside0.mk (below_step (by repeat (first | (with_reducible first | exact HB.out | apply below_alloc | apply pw_below_drewN | apply below_drew1 | refine below_set ?_ GE256.out) | exact HB.out)) hb); clear BK256; clear HB; have BK256 := n0_; have HB := n1_; clear n0_ n1_; (try clear hb); (try clear hb2); (try clear hk); (try clear hi)))
    go_ret
    exact ⟨by first | rfl | (simp [errW_none, errW_some] <;> rfl) | (simp [*, errW_none, errW_some] <;> rfl), by repeat (first | (with_reducible first | exact HB.out | apply below_alloc | apply pw_below_drewN | apply below_drew1 | refine below_set ?_ GE256.out) | exact HB.out)⟩
   ·
    replace c15 := Bool.eq_false_iff.mpr c15
    subst c15
    have H1 : (if a1 ≥ 0 then (samphirelaw11_HeapStays.j1 kj3 l0 a1 (decide (a1 < (l0.length : Int))) a2_0 a2_1 a2_2) else (samphirelaw11_HeapStays.j1 kj3 l0 a1 false a2_0 a2_1 a2_2)) = some r := by rw [if_neg (show ¬ (false = true) by decide)] at H; exact H
    clear H
    have H := H1
    clear H1
    have HC18 := Aside0.mk H
    clear H
    go_upto_region 3 with (fail)
    go_cut [37] (fun v37 wc => ∃ (kq : Nat) (x37_17 : Bool), v37 = .bool x37_17 ∧ Aside0 (samphirelaw11_HeapStays.j1 kq l0 a1 x37_17 a2_0 a2_1 a2_2 = some r) ∧ Aside0 (kq ≤ kj3) ∧ Aside0 (wc.heap[gb256]? = some (.cells #[.string a2_0, .int .u64 a2_1, .int .u64 a2_2] 25 (0, 0))) ∧ Aside0 (Below w.heap.size w wc))
    case first =>
     have H := HC18.out
     clear HC18
     by_cases c19 : a1 ≥ 0
     ·
      rw [if_pos c19] at H
      have c19b0 : decide (0 ≤ a1) = true := decide_eq_true c19
      clear c19
      (first | rw [c19b0] | (simp only [i64_w, i32_w]; rw [c19b0]) | skip)
      have H' := Aside0.mk H
      clear H
      go_wp2
      go_meet
      case rel => exact ⟨_, (decide (a1 < (l0.length : Int))), (by first | rfl | (simp; done) | (simp [*]; done)), H', ⟨by have := HJ3.out; first | omega | exact Nat.le_refl _⟩, ⟨by (with_reducible repeat (first | refine blk_drewN ?_ _ | refine blk_drew ?_ | refine blk_alloc ?_ _)); exact BK256.out⟩, ⟨by repeat (first | (with_reducible first | exact HB.out | apply below_alloc | apply pw_below_drewN | apply below_drew1 | refine below_set ?_ GE256.out) | exact HB.out)⟩⟩
     ·
      rw [if_neg c19] at H
      have c19b0 : decide (0 ≤ a1) = false := decide_eq_false c19
      clear c19
      (first | rw [c19b0] | (simp only [i64_w, i32_w]; rw [c19b0]) | skip)
      have H' := Aside0.mk H
      clear H
      go_wp2
      go_meet
      case rel => exact ⟨_, (false), (by first | rfl | (simp; done) | (simp [*]; done)), H', ⟨by have := HJ3.out; first | omega | exact Nat.le_refl _⟩, ⟨by (with_reducible repeat (first | refine blk_drewN ?_ _ | refine blk_drew ?_ | refine blk_alloc ?_ _)); exact BK256.out⟩, ⟨by repeat (first | (with_reducible first | exact HB.out | apply below_alloc | apply pw_below_drewN | apply below_drew1 | refine below_set ?_ GE256.out) | exact HB.out)⟩⟩
    case rest =>
     clear HC18
     try clear c1
     try clear p2
     try clear c6
     try clear c7
     try clear c8
     try clear c9
     try clear c15
     try clear c19
     try clear c19b0
     try clear hcz12_0
     try clear hcz12_1
     try clear hcz12_2
     try clear hfz12_0
     try clear hfz12_1
     try clear hfz12_2
     try clear p2
     obtain ⟨kq, x37_17, rfl, HA, HJ17, BK256, HB⟩ := hcut
     cases kq with
     | zero => exact absurd HA.out (by simp [samphirelaw11_HeapStays.j1])
     | succ kj17 =>
      have H := HA.out
      clear HA
      simp only [samphirelaw11_HeapStays.j1] at H
      have HC20 := Aside0.mk H
      clear H
      go_upto_if 37 with (fail)
      go_cut [] (fun wc => ∃ (kq : Nat), Aside0 (samphirelaw11_HeapStays.j2 kq l0 a2_0 a2_1 a2_2 = some r) ∧ Aside0 (kq ≤ kj17) ∧ Aside0 (wc.heap[gb256]? = some (.cells #[.string a2_0, .int .u64 a2_1, .int .u64 a2_2] 25 (0, 0))) ∧ Aside0 (Below w.heap.size w wc))
      case first =>
       have H := HC20.out
       clear HC20
       by_cases c21 : x37_17 = true
       ·
        subst c21
        have H1 : (if 0 ≤ a1 then (if a1 < (l0.length : Int) then ((heap_Put.f kj17 l0 a1 ((rd_T25 l0 a1).f0) ((rd_T25 l0 a1).f1) ((rd_T25 l0 a1).f2)).bind fun bt262 => (if bt262.2 = 0 then ((samphireref10_Same.f kj17 bt262.1 l0).bind fun t266 => (if t266 = true then (samphirelaw11_HeapStays.j2 kj17 l0 a2_0 a2_1 a2_2) else (some false))) else (some false))) else (none)) else (none)) = some r := by rw [if_pos rfl] at H; exact H
        clear H
        have H := H1
        clear H1
        by_cases c22 : 0 ≤ a1
        ·
         rw [if_pos c22] at H
         have c22b0 : decide (0 ≤ a1) = true := decide_eq_true c22
         clear c22
         (first | rw [c22b0] | (simp only [i64_w, i32_w]; rw [c22b0]) | skip)
         by_cases c23 : a1 < (l0.length : Int)
         ·
          rw [if_pos c23] at H
          have c23b0 : decide (a1 < (l0.length : Int)) = true := decide_eq_true c23
          clear c23
          replace H := Option.bind_eq_some_iff.mp H
          obtain ⟨⟨t262, t265⟩, A240, H⟩ := H
          replace H : (if t265 = 0 then ((samphireref10_Same.f kj17 t262 l0).bind fun t266 => (if t266 = true then (samphirelaw11_HeapStays.j2 kj17 l0 a2_0 a2_1 a2_2) else (some false))) else (some false)) = some r := H
          have A24 := Aside0.mk A240
          clear A240
          by_cases c25 : t265 = 0
          ·
           rw [if_pos c25] at H
           have c25b0 : (t265 == 0) = true := beq_iff_eq.mpr c25
           have c25b1 : (t265 != 0) = false := bne_eq_false_iff_eq.mpr c25
           clear c25
           replace H := Option.bind_eq_some_iff.mp H
           obtain ⟨t266, A260, H⟩ := H
           replace H : (if t266 = true then (samphirelaw11_HeapStays.j2 kj17 l0 a2_0 a2_1 a2_2) else (some false)) = some r := H
           have A26 := Aside0.mk A260
           clear A260
           by_cases c27 : t266 = true
           ·
            subst c27
            have H1 : (samphirelaw11_HeapStays.j2 kj17 l0 a2_0 a2_1 a2_2) = some r := by rw [if_pos rfl] at H; exact H
            clear H
            have H := H1
            clear H1
            have H' := Aside0.mk H
            clear H
            have p261 : 0 ≤ (a1 : Int) := of_decide_eq_true (by first | (with_reducible assumption) | assumption)
            have q261 : a1 < (l0.length : Int) := of_decide_eq_true (by first | (with_reducible assumption) | assumption)
            obtain ⟨ad261, e261, hx261_0, hx261_1, hx261_2⟩ := at_T25 HR0.out a1 p261 q261
            cases e261
            replace hx261_0 := (HB.out.cell (World.block_lt_of_cell? w _ hx261_0)).trans hx261_0
            replace hx261_1 := (HB.out.cell (World.block_lt_of_cell? w _ hx261_1)).trans hx261_1
            replace hx261_2 := (HB.out.cell (World.block_lt_of_cell? w _ hx261_2)).trans hx261_2
            replace p261 := eq_true p261
            replace q261 := eq_true q261
            go_wp2_with (first | ((with_reducible refine gate_callee (f := 12) rfl ?_); refine goesL_ (some 45) rfl rfl Try.func12 (by kernel_rfl) rfl #[.slice (some ad261) l0.length c0, .int .i64 a1, .agg #[.string ((rd_T25 l0 a1).f0), .int .u64 ((rd_T25 l0 a1).f1), .int .u64 ((rd_T25 l0 a1).f2)]] rfl (by (try simp only [List.map_toArray, List.map_cons, List.map_nil]); first | done | rfl | (simp only [List.length_drop, List.length_take]; rfl)) ?_; (with_reducible refine (heap_Put.calls kj17 (fun k_ => k_ < w.heap.size) _ _ l0 a1 ((rd_T25 l0 a1).f0) ((rd_T25 l0 a1).f1) ((rd_T25 l0 a1).f2) t262 t265 _ ?side1 A24.out).mono ?_); (case side1 => exact Kd.V_mk HC0.out (Kd.F_below (Kd.C_F k25_heap HR0.out) (by repeat (first | (with_reducible first | exact HB.out | apply below_alloc | apply pw_below_drewN | apply below_drew1 | refine below_set ?_ GE256.out) | exact HB.out)))); rintro e w28 ⟨v263, rfl, ho0, hb⟩; refine ⟨_, rfl, ?_⟩; have n0_ := Aside0.mk (Kd.V_lower (Kd.V_mono (ok' := fun k_ => k_ ≠ gb256) ho0 (fun k_ hk_ => Or.elim hk_ (fun hs_ => fun e_ => Nat.not_le.2 hs_ (by rw [e_]; exact GW256.out)) (fun hn_ => (Kd.freshB (g := gb256) (o := .cells #[.string a2_0, .int .u64 a2_1, .int .u64 a2_2] 25 (0, 0)) (by (with_reducible repeat (first | refine blk_drewN ?_ _ | refine blk_drew ?_ | refine blk_alloc ?_ _)); exact BK256.out) k_ hn_)))) (below_size (by repeat (first | (with_reducible first | exact HB.out | apply below_alloc | apply pw_below_drewN | apply below_drew1 | refine below_set ?_ GE256.out) | exact HB.out)))); have n1_ := Aside0.mk (blk_below (g := gb256) (o := .cells #[.string a2_0, .int .u64 a2_1, .int .u64 a2_2] 25 (0, 0)) (by (with_reducible repeat (first | refine blk_drewN ?_ _ | refine blk_drew ?_ | refine blk_alloc ?_ _)); exact BK256.out) hb); have n2_ := Aside0.mk (below_step (by repeat (first | (with_reducible first | exact HB.out | apply below_alloc | apply pw_below_drewN | apply below_drew1 | refine below_set ?_ GE256.out) | exact HB.out)) hb); clear BK256; clear HB; have HO264 := n0_; have BK256 := n1_; have HB := n2_; clear n0_ n1_ n2_; (try clear hb); (try clear hb2); (try clear hk); (try clear hi); (try clear ho0); obtain ⟨Ao29, co29, eo29⟩ := Kd.V_slice HO264.out; subst eo29) | (go_at_call 16; (with_reducible refine (samphireref10_Same.calls kj17 _ _ t262 _ _ l0 true _ ?side1 ?side2 ?side3 ?side4 A26.out).mono ?_); (case side1 => repeat (first | exact (Kd.V_reads' HO264.out).2.2 | (with_reducible refine Kd.C_alloc ?_ _) | (with_reducible refine Kd.C_drewN ?_ _) | (with_reducible refine Kd.C_drew ?_))); (case side2 => exact (Kd.V_reads' HO264.out).2.1); (case side3 => repeat (first | exact (Kd.C_below HR0.out HB.out) | (with_reducible refine Kd.C_alloc ?_ _) | (with_reducible refine Kd.C_drewN ?_ _) | (with_reducible refine Kd.C_drew ?_))); (case side4 => exact HC0.out); rintro e w' ⟨rfl, ⟨nd, rfl⟩⟩))
            go_meet
            case rel => exact ⟨_, H', ⟨by have := HJ3.out; have := HJ17.out; first | omega | exact Nat.le_refl _⟩, ⟨by (with_reducible repeat (first | refine blk_drewN ?_ _ | refine blk_drew ?_ | refine blk_alloc ?_ _)); exact BK256.out⟩, ⟨by repeat (first | (with_reducible first | exact HB.out | apply below_alloc | apply pw_below_drewN | apply below_drew1 | refine below_set ?_ GE256.out) | exact HB.out)⟩⟩
           ·
            replace c27 := Bool.eq_false_iff.mpr c27
            subst c27
            have H1 : (some false) = some r := by rw [if_neg (show ¬ (false = true) by decide)] at H; exact H
            clear H
            have H := H1
            clear H1
            obtain rfl := Option.some.inj H
            have p261 : 0 ≤ (a1 : Int) := of_decide_eq_true (by first | (with_reducible assumption) | assumption)
            have q261 : a1 < (l0.length : Int) := of_decide_eq_true (by first | (with_reducible assumption) | assumption)
            obtain ⟨ad261, e261, hx261_0, hx261_1, hx261_2⟩ := at_T25 HR0.out a1 p261 q261
            cases e261
            replace hx261_0 := (HB.out.cell (World.block_lt_of_cell? w _ hx261_0)).trans hx261_0
            replace hx261_1 := (HB.out.cell (World.block_lt_of_cell? w _ hx261_1)).trans hx261_1
            replace hx261_2 := (HB.out.cell (World.block_lt_of_cell? w _ hx261_2)).trans hx261_2
            replace p261 := eq_true p261
            replace q261 := eq_true q261
            go_wp2_with (first | ((with_reducible refine gate_callee (f := 12) rfl ?_); refine goesL_ (some 45) rfl rfl Try.func12 (by kernel_rfl) rfl #[.slice (some ad261) l0.length c0, .int .i64 a1, .agg #[.string ((rd_T25 l0 a1).f0), .int .u64 ((rd_T25 l0 a1).f1), .int .u64 ((rd_T25 l0 a1).f2)]] rfl (by (try simp only [List.map_toArray, List.map_cons, List.map_nil]); first | done | rfl | (simp only [List.length_drop, List.length_take]; rfl)) ?_; (with_reducible refine (heap_Put.calls kj17 (fun k_ => k_ < w.heap.size) _ _ l0 a1 ((rd_T25 l0 a1).f0) ((rd_T25 l0 a1).f1) ((rd_T25 l0 a1).f2) t262 t265 _ ?side1 A24.out).mono ?_); (case side1 => exact Kd.V_mk HC0.out (Kd.F_below (Kd.C_F k25_heap HR0.out) (by repeat (first | (with_reducible first | exact HB.out | apply below_alloc | apply pw_below_drewN | apply below_drew1 | refine below_set ?_ GE256.out) | exact HB.out)))); rintro e w30 ⟨v263, rfl, ho0, hb⟩; refine ⟨_, rfl, ?_⟩; have n0_ := Aside0.mk (Kd.V_lower (Kd.V_mono (ok' := fun k_ => k_ ≠ gb256) ho0 (fun k_ hk_ => Or.elim hk_ (fun hs_ => fun e_ => Nat.not_le.2 hs_ (by rw [e_]; exact GW256.out)) (fun hn_ => (Kd.freshB (g := gb256) (o := .cells #[.string a2_0, .int .u64 a2_1, .int .u64 a2_2] 25 (0, 0)) (by (with_reducible repeat (first | refine blk_drewN ?_ _ | refine blk_drew ?_ | refine blk_alloc ?_ _)); exact BK256.out) k_ hn_)))) (below_size (by repeat (first | (with_reducible first | exact HB.out | apply below_alloc | apply pw_below_drewN | apply below_drew1 | refine below_set ?_ GE256.out) | exact HB.out)))); have n1_ := Aside0.mk (blk_below (g := gb256) (o := .cells #[.string a2_0, .int .u64 a2_1, .int .u64 a2_2] 25 (0, 0)) (by (with_reducible repeat (first | refine blk_drewN ?_ _ | refine blk_drew ?_ | refine blk_alloc ?_ _)); exact BK256.out) hb); have n2_ := Aside0.mk (below_step (by repeat (first | (with_reducible first | exact HB.out | apply below_alloc | apply pw_below_drewN | apply below_drew1 | refine below_set ?_ GE256.out) | exact HB.out)) hb); clear BK256; clear HB; have HO264 := n0_; have BK256 := n1_; have HB := n2_; clear n0_ n1_ n2_; (try clear hb); (try clear hb2); (try clear hk); (try clear hi); (try clear ho0); obtain ⟨Ao31, co31, eo31⟩ := Kd.V_slice HO264.out; subst eo31) | (go_at_call 16; (with_reducible refine (samphireref10_Same.calls kj17 _ _ t262 _ _ l0 false _ ?side1 ?side2 ?side3 ?side4 A26.out).mono ?_); (case side1 => repeat (first | exact (Kd.V_reads' HO264.out).2.2 | (with_reducible refine Kd.C_alloc ?_ _) | (with_reducible refine Kd.C_drewN ?_ _) | (with_reducible refine Kd.C_drew ?_))); (case side2 => exact (Kd.V_reads' HO264.out).2.1); (case side3 => repeat (first | exact (Kd.C_below HR0.out HB.out) | (with_reducible refine Kd.C_alloc ?_ _) | (with_reducible refine Kd.C_drewN ?_ _) | (with_reducible refine Kd.C_drew ?_))); (case side4 => exact HC0.out); rintro e w' ⟨rfl, ⟨nd, rfl⟩⟩))
            go_ret
            exact ⟨by first | rfl | (simp [errW_none, errW_some] <;> rfl) | (simp [*, errW_none, errW_some] <;> rfl), by repeat (first | (with_reducible first | exact HB.out | apply below_alloc | apply pw_below_drewN | apply below_drew1 | refine below_set ?_ GE256.out) | exact HB.out)⟩
          ·
           rw [if_neg c25] at H
           have c25b0 : (t265 == 0) = false := beq_eq_false_iff_ne.mpr c25
           have c25b1 : (t265 != 0) = true := bne_iff_ne.mpr c25
           obtain rfl := Option.some.inj H
           have p261 : 0 ≤ (a1 : Int) := of_decide_eq_true (by first | (with_reducible assumption) | assumption)
           have q261 : a1 < (l0.length : Int) := of_decide_eq_true (by first | (with_reducible assumption) | assumption)
           obtain ⟨ad261, e261, hx261_0, hx261_1, hx261_2⟩ := at_T25 HR0.out a1 p261 q261
           cases e261
           replace hx261_0 := (HB.out.cell (World.block_lt_of_cell? w _ hx261_0)).trans hx261_0
           replace hx261_1 := (HB.out.cell (World.block_lt_of_cell? w _ hx261_1)).trans hx261_1
           replace hx261_2 := (HB.out.cell (World.block_lt_of_cell? w _ hx261_2)).trans hx261_2
           replace p261 := eq_true p261
           replace q261 := eq_true q261
           go_wp2_with (first | ((with_reducible refine gate_callee (f := 12) rfl ?_); refine goesL_ (some 45) rfl rfl Try.func12 (by kernel_rfl) rfl #[.slice (some ad261) l0.length c0, .int .i64 a1, .agg #[.string ((rd_T25 l0 a1).f0), .int .u64 ((rd_T25 l0 a1).f1), .int .u64 ((rd_T25 l0 a1).f2)]] rfl (by (try simp only [List.map_toArray, List.map_cons, List.map_nil]); first | done | rfl | (simp only [List.length_drop, List.length_take]; rfl)) ?_; (with_reducible refine (heap_Put.calls kj17 (fun k_ => k_ < w.heap.size) _ _ l0 a1 ((rd_T25 l0 a1).f0) ((rd_T25 l0 a1).f1) ((rd_T25 l0 a1).f2) t262 t265 _ ?side1 A24.out).mono ?_); (case side1 => exact Kd.V_mk HC0.out (Kd.F_below (Kd.C_F k25_heap HR0.out) (by repeat (first | (with_reducible first | exact HB.out | apply below_alloc | apply pw_below_drewN | apply below_drew1 | refine below_set ?_ GE256.out) | exact HB.out)))); rintro e w32 ⟨v263, rfl, ho0, hb⟩; refine ⟨_, rfl, ?_⟩; have n0_ := Aside0.mk (Kd.V_lower (Kd.V_mono (ok' := fun k_ => k_ ≠ gb256) ho0 (fun k_ hk_ => Or.elim hk_ (fun hs_ => fun e_ => Nat.not_le.2 hs_ (by rw [e_]; exact GW256.out)) (fun hn_ => (Kd.freshB (g := gb256) (o := .cells #[.string a2_0, .int .u64 a2_1, .int .u64 a2_2] 25 (0, 0)) (by (with_reducible repeat (first | refine blk_drewN ?_ _ | refine blk_drew ?_ | refine blk_alloc ?_ _)); exact BK256.out) k_ hn_)))) (below_size (by repeat (first | (with_reducible first | exact HB.out | apply below_alloc | apply pw_below_drewN | apply below_drew1 | refine below_set ?_ GE256.out) | exact HB.out)))); have n1_ := Aside0.mk (blk_below (g := gb256) (o := .cells #[.string a2_0, .int .u64 a2_1, .int .u64 a2_2] 25 (0, 0)) (by (with_reducible repeat (first | refine blk_drewN ?_ _ | refine blk_drew ?_ | refine blk_alloc ?_ _)); exact BK256.out) hb); have n2_ := Aside0.mk (below_step (by repeat (first | (with_reducible first | exact HB.out | apply below_alloc | apply pw_below_drewN | apply below_drew1 | refine below_set ?_ GE256.out) | exact HB.out)) hb); clear BK256; clear HB; have HO264 := n0_; have BK256 := n1_; have HB := n2_; clear n0_ n1_ n2_; (try clear hb); (try clear hb2); (try clear hk); (try clear hi); (try clear ho0)))
           go_ret
           exact ⟨by first | rfl | (simp [errW_none, errW_some] <;> rfl) | (simp [*, errW_none, errW_some] <;> rfl), by repeat (first | (with_reducible first | exact HB.out | apply below_alloc | apply pw_below_drewN | apply below_drew1 | refine below_set ?_ GE256.out) | exact HB.out)⟩
         ·
          rw [if_neg c23] at H
          exact absurd H (by simp)
        ·
         rw [if_neg c22] at H
         exact absurd H (by simp)
       ·
        replace c21 := Bool.eq_false_iff.mpr c21
        subst c21
        have H1 : (samphirelaw11_HeapStays.j2 kj17 l0 a2_0 a2_1 a2_2) = some r := by rw [if_neg (show ¬ (false = true) by decide)] at H; exact H
        clear H
        have H := H1
        clear H1
        have H' := Aside0.mk H
        clear H
        go_wp2
        go_meet
        case rel => exact ⟨_, H', ⟨by have := HJ3.out; have := HJ17.out; first | omega | exact Nat.le_refl _⟩, ⟨by (with_reducible repeat (first | refine blk_drewN ?_ _ | refine blk_drew ?_ | refine blk_alloc ?_ _)); exact BK256.out⟩, ⟨by repeat (first | (with_reducible first | exact HB.out | apply below_alloc | apply pw_below_drewN | apply below_drew1 | refine below_set ?_ GE256.out) | exact HB.out)⟩⟩
      case rest =>
       clear HC20
       try clear c1
       try clear c2
       try clear p2
       try clear q2
       try clear hx2
       try clear c6
       try clear c7
       try clear c8
       try clear c9
       try clear c12
       try clear c15
       try clear c19
       try clear c19b0
       try clear c21
       try clear c22
       try clear c22b0
       try clear c23
       try clear c23b0
       try clear c25
       try clear c25b0
       try clear c25b1
       try clear p26
       try clear q26
       try clear hx26
       try clear c27
       try clear hcz12_0
       try clear hcz12_1
       try clear hcz12_2
       try clear hfz12_0
       try clear hfz12_1
       try clear hfz12_2
       try clear hx261_0
       try clear hx261_1
       try clear hx261_2
       try clear p2
       try clear p261
       try clear q261
       obtain ⟨kq, HA, HJ19, BK256, HB⟩ := hcut
       cases kq with
       | zero => exact absurd HA.out (by simp [samphirelaw11_HeapStays.j2])
       | succ kj19 =>
        have H := HA.out
        clear HA
        simp only [samphirelaw11_HeapStays.j2] at H
        have H' := Aside0.mk H
        clear H
        go_wp2
        go_loopg [58] kj19 (fun kq v58 w' => ∃ (x58_4 : Int), v58 = .int .i64 x58_4 ∧ Aside0 (samphirelaw11_HeapStays.l0 kq l0 l0 (l0.length : Int) x58_4 a2_0 a2_1 a2_2 = some r) ∧ Aside0 (kq ≤ kj19) ∧ Aside0 (w'.heap[gb256]? = some (.cells #[.string a2_0, .int .u64 a2_1, .int .u64 a2_2] 25 (0, 0))) ∧ Aside0 (Below w.heap.size w w'))
        case atStart => exact ⟨(0), (by first | rfl | (simp; done) | (simp [*]; done)), H', ⟨Nat.le_refl _⟩, ⟨by (with_reducible repeat (first | refine blk_drewN ?_ _ | refine blk_drew ?_ | refine blk_alloc ?_ _)); exact BK256.out⟩, ⟨by repeat (first | (with_reducible first | exact HB.out | apply below_alloc | apply pw_below_drewN | apply below_drew1 | refine below_set ?_ GE256.out) | exact HB.out)⟩⟩
        case round =>
         clear H'
         try clear c1
         try clear c2
         try clear p2
         try clear q2
         try clear hx2
         try clear c6
         try clear c7
         try clear c8
         try clear c9
         try clear c12
         try clear c15
         try clear c19
         try clear c19b0
         try clear c21
         try clear c22
         try clear c22b0
         try clear c23
         try clear c23b0
         try clear c25
         try clear c25b0
         try clear c25b1
         try clear p26
         try clear q26
         try clear hx26
         try clear c27
         try clear hcz12_0
         try clear hcz12_1
         try clear hcz12_2
         try clear hfz12_0
         try clear hfz12_1
         try clear hfz12_2
         try clear hx261_0
         try clear hx261_1
         try clear hx261_2
         try clear p2
         try clear p26
         try clear p261
         try clear q2
         try clear q26
         try clear q261
         obtain ⟨x58_4, rfl, HA, HK4, BK256, HB⟩ := hrel
         cases gk with
         | zero => exact absurd HA.out (by simp [samphirelaw11_HeapStays.l0])
         | succ k4 =>
          have H := HA.out
          clear HA
          simp only [samphirelaw11_HeapStays.l0] at H
          by_cases c33 : x58_4 < (l0.length : Int)
          ·
           rw [if_pos c33] at H
           have c33b0 : decide (x58_4 < (l0.length : Int)) = true := decide_eq_true c33
           clear c33
           by_cases c34 : 0 ≤ x58_4
           ·
            rw [if_pos c34] at H
            have c34b0 : decide (0 ≤ x58_4) = true := decide_eq_true c34
            clear c34
            by_cases c35 : x58_4 < (l0.length : Int)
            ·
             rw [if_pos c35] at H
             have c35b0 : decide (x58_4 < (l0.length : Int)) = true := decide_eq_true c35
             clear c35
             replace H := Option.bind_eq_some_iff.mp H
             obtain ⟨t269, A360, H⟩ := H
             replace H : (if t269 ≥ 0 then ((samphirelaw11_awake.f k4).bind fun t270 => (some t270)) else (samphirelaw11_HeapStays.l0 k4 l0 l0 (l0.length : Int) (wrap64 (x58_4 + 1)) a2_0 a2_1 a2_2)) = some r := H
             have A36 := Aside0.mk A360
             clear A360
             by_cases c37 : t269 ≥ 0
             ·
              rw [if_pos c37] at H
              have c37b0 : decide (0 ≤ t269) = true := decide_eq_true c37
              clear c37
              replace H := Option.bind_eq_some_iff.mp H
              obtain ⟨t270, A380, H⟩ := H
              replace H : (some t270) = some r := H
              have A38 := Aside0.mk A380
              clear A380
              obtain rfl := Option.some.inj H
              have p267 : 0 ≤ (x58_4 : Int) := of_decide_eq_true (by first | (with_reducible assumption) | assumption)
              have q267 : x58_4 < (l0.length : Int) := of_decide_eq_true (by first | (with_reducible assumption) | assumption)
              obtain ⟨ad267, e267, hx267_0, hx267_1, hx267_2⟩ := at_T25 HR0.out x58_4 p267 q267
              cases e267
              replace hx267_0 := (HB.out.cell (World.block_lt_of_cell? w _ hx267_0)).trans hx267_0
              replace hx267_1 := (HB.out.cell (World.block_lt_of_cell? w _ hx267_1)).trans hx267_1
              replace hx267_2 := (HB.out.cell (World.block_lt_of_cell? w _ hx267_2)).trans hx267_2
              replace p267 := eq_true p267
              replace q267 := eq_true q267
              go_wp2_with (first | ((with_reducible refine gate_dst (N := 10) rfl ?_); (try (refine gate_guard (by rfl) ?_; dsimp only)); refine box_event ?hg (N := 10) ?hd (cs := #[.string (⟨#[]⟩ : ByteArray), .int .u64 0, .int .u64 0]) (t := 25) ?hr ?_; (case hd => rfl); (case hg => rfl); (case hr => first | (go_simp; done) | (go_simp; rfl)); intro gb268 hg w39 hbox hb; have n0_ := Aside0.mk (blk_below (g := gb256) (o := .cells #[.string a2_0, .int .u64 a2_1, .int .u64 a2_2] 25 (0, 0)) (by (with_reducible repeat (first | refine blk_drewN ?_ _ | refine blk_drew ?_ | refine blk_alloc ?_ _)); exact BK256.out) hb); have n1_ := Aside0.mk (below_step (by repeat (first | (with_reducible first | exact HB.out | apply below_alloc | apply pw_below_drewN | apply below_drew1 | refine below_set ?_ GE256.out) | exact HB.out)) hb); have n2_ := Aside0.mk (hbox); have n3_ := Aside0.mk ((by rw [hg]; exact (below_size (by repeat (first | (with_reducible first | exact HB.out | apply below_alloc | apply pw_below_drewN | apply below_drew1 | refine below_set ?_ GE256.out) | exact HB.out))) : w.heap.size ≤ gb268)); have n4_ := Aside0.mk ((by rw [hg]; exact (below_size (by repeat (first | (with_reducible first | exact HB.out | apply below_alloc | apply pw_below_drewN | apply below_drew1 | refine below_set ?_ GE256.out) | exact HB.out))) : w.heap.size ≤ gb268)); have n5_ := Aside0.mk ((by rw [hg]; exact Nat.ne_of_lt (blk_lt (g := gb256) (o := .cells #[.string a2_0, .int .u64 a2_1, .int .u64 a2_2] 25 (0, 0)) (by (with_reducible repeat (first | refine blk_drewN ?_ _ | refine blk_drew ?_ | refine blk_alloc ?_ _)); exact BK256.out)) : gb256 ≠ gb268)); have n6_ := Aside0.mk ((by rw [hg]; exact Nat.ne_of_gt (blk_lt (g := gb256) (o := .cells #[.string a2_0, .int .u64 a2_1, .int .u64 a2_2] 25 (0, 0)) (by (with_reducible repeat (first | refine blk_drewN ?_ _ | refine blk_drew ?_ | refine blk_alloc ?_ _)); exact BK256.out)) : gb268 ≠ gb256)); clear BK256; clear HB; have BK256 := n0_; have HB := n1_; have BK268 := n2_; have GW268 := n3_; have GE268 := n4_; have NB256_268 := n5_; have NB268_256 := n6_; clear n0_ n1_ n2_ n3_ n4_ n5_ n6_; clear hb hbox hg; have hnb40 := NB268_256.out; have hnc40 := NB256_268.out; have hcz41_0 : w39.cell? ⟨gb268, 0, none⟩ = some (.string (⟨#[]⟩ : ByteArray)) := (blk_cell BK268.out 0).trans rfl; have hcz41_1 : w39.cell? ⟨gb268, 1, none⟩ = some (.int .u64 0) := (blk_cell BK268.out 1).trans rfl; have hcz41_2 : w39.cell? ⟨gb268, 2, none⟩ = some (.int .u64 0) := (blk_cell BK268.out 2).trans rfl; have hfz41_0 := blk_frozen BK268.out 0; have hfz41_1 := blk_frozen BK268.out 1; have hfz41_2 := blk_frozen BK268.out 2; have hcz42_0 : w39.cell? ⟨gb256, 0, none⟩ = some (.string a2_0) := (blk_cell BK256.out 0).trans rfl; have hcz42_1 : w39.cell? ⟨gb256, 1, none⟩ = some (.int .u64 a2_1) := (blk_cell BK256.out 1).trans rfl; have hcz42_2 : w39.cell? ⟨gb256, 2, none⟩ = some (.int .u64 a2_2) := (blk_cell BK256.out 2).trans rfl; have hfz42_0 := blk_frozen BK256.out 0; have hfz42_1 := blk_frozen BK256.out 1; have hfz42_2 := blk_frozen BK256.out 2) | ((with_reducible refine gate_callee (f := 23) rfl ?_); refine goesL_ (some 64) rfl rfl Try.func23 (by kernel_rfl) rfl #[.agg #[.string ((rd_T25 l0 x58_4).f0), .int .u64 ((rd_T25 l0 x58_4).f1), .int .u64 ((rd_T25 l0 x58_4).f2)], .agg #[.string a2_0, .int .u64 a2_1, .int .u64 a2_2]] rfl (by (try simp only [List.map_toArray, List.map_cons, List.map_nil]); first | done | rfl | (simp only [List.length_drop, List.length_take]; rfl)) ?_; (with_reducible refine (rank_Cmp.calls k4 ((rd_T25 l0 x58_4).f0) ((rd_T25 l0 x58_4).f1) ((rd_T25 l0 x58_4).f2) a2_0 a2_1 a2_2 t269 _ A36.out).mono ?_); rintro e w43 ⟨rfl, hb⟩; refine ⟨_, rfl, ?_⟩; have n0_ := Aside0.mk (blk_below (g := gb256) (o := .cells #[.string a2_0, .int .u64 a2_1, .int .u64 a2_2] 25 (0, 0)) (by (with_reducible repeat (first | refine blk_drewN ?_ _ | refine blk_drew ?_ | refine blk_alloc ?_ _)); refine blk_far ?_ NB256_268.out _; (with_reducible repeat (first | refine blk_drewN ?_ _ | refine blk_drew ?_ | refine blk_alloc ?_ _)); refine blk_far ?_ NB256_268.out _; (with_reducible repeat (first | refine blk_drewN ?_ _ | refine blk_drew ?_ | refine blk_alloc ?_ _)); refine blk_far ?_ NB256_268.out _; (with_reducible repeat (first | refine blk_drewN ?_ _ | refine blk_drew ?_ | refine blk_alloc ?_ _)); exact BK256.out) hb); have n1_ := Aside0.mk (blk_below (g := gb268) (o := .cells #[.string ((rd_T25 l0 x58_4).f0), .int .u64 ((rd_T25 l0 x58_4).f1), .int .u64 ((rd_T25 l0 x58_4).f2)] 25 (0, 0)) (by (with_reducible repeat (first | refine blk_drewN ?_ _ | refine blk_drew ?_ | refine blk_alloc ?_ _)); refine blk_put (cs := #[.string ((rd_T25 l0 x58_4).f0), .int .u64 ((rd_T25 l0 x58_4).f1), .int .u64 0]) ?_ 2 _ rfl; (with_reducible repeat (first | refine blk_drewN ?_ _ | refine blk_drew ?_ | refine blk_alloc ?_ _)); refine blk_put (cs := #[.string ((rd_T25 l0 x58_4).f0), .int .u64 0, .int .u64 0]) ?_ 1 _ rfl; (with_reducible repeat (first | refine blk_drewN ?_ _ | refine blk_drew ?_ | refine blk_alloc ?_ _)); refine blk_put (cs := #[.string (⟨#[]⟩ : ByteArray), .int .u64 0, .int .u64 0]) ?_ 0 _ rfl; (with_reducible repeat (first | refine blk_drewN ?_ _ | refine blk_drew ?_ | refine blk_alloc ?_ _)); exact BK268.out) hb); have n2_ := Aside0.mk (below_step (by repeat (first | (with_reducible first | exact HB.out | apply below_alloc | apply pw_below_drewN | apply below_drew1 | refine below_set ?_ GE256.out | refine below_set ?_ GE268.out) | exact HB.out)) hb); clear BK256; clear BK268; clear HB; have BK256 := n0_; have BK268 := n1_; have HB := n2_; clear n0_ n1_ n2_; (try clear hb); (try clear hb2); (try clear hk); (try clear hi)) | ((with_reducible refine gate_callee (f := 9) rfl ?_); refine goesL_ (some 66) rfl rfl Try.func9 (by kernel_rfl) rfl #[] rfl (by (try simp only [List.map_toArray, List.map_cons, List.map_nil]); first | done | rfl | (simp only [List.length_drop, List.length_take]; rfl)) ?_; (with_reducible refine (samphirelaw11_awake.calls k4  t270 _ A38.out).mono ?_); rintro e w44 ⟨rfl, hb⟩; refine ⟨_, rfl, ?_⟩; have n0_ := Aside0.mk (blk_below (g := gb256) (o := .cells #[.string a2_0, .int .u64 a2_1, .int .u64 a2_2] 25 (0, 0)) (by (with_reducible repeat (first | refine blk_drewN ?_ _ | refine blk_drew ?_ | refine blk_alloc ?_ _)); exact BK256.out) hb); have n1_ := Aside0.mk (blk_below (g := gb268) (o := .cells #[.string ((rd_T25 l0 x58_4).f0), .int .u64 ((rd_T25 l0 x58_4).f1), .int .u64 ((rd_T25 l0 x58_4).f2)] 25 (0, 0)) (by (with_reducible repeat (first | refine blk_drewN ?_ _ | refine blk_drew ?_ | refine blk_alloc ?_ _)); exact BK268.out) hb); have n2_ := Aside0.mk (below_step (by repeat (first | (with_reducible first | exact HB.out | apply below_alloc | apply pw_below_drewN | apply below_drew1 | refine below_set ?_ GE256.out | refine below_set ?_ GE268.out) | exact HB.out)) hb); clear BK256; clear BK268; clear HB; have BK256 := n0_; have BK268 := n1_; have HB := n2_; clear n0_ n1_ n2_; (try clear hb); (try clear hb2); (try clear hk); (try clear hi)))
              go_ret
              exact ⟨by first | rfl | (simp [errW_none, errW_some] <;> rfl) | (simp [*, errW_none, errW_some] <;> rfl), by repeat (first | (with_reducible first | exact HB.out | apply below_alloc | apply pw_below_drewN | apply below_drew1 | refine below_set ?_ GE256.out | refine below_set ?_ GE268.out) | exact HB.out)⟩
             ·
              rw [if_neg c37] at H
              have c37b0 : decide (0 ≤ t269) = false := decide_eq_false c37
              clear c37
              have H' := Aside0.mk H
              clear H
              have p267 : 0 ≤ (x58_4 : Int) := of_decide_eq_true (by first | (with_reducible assumption) | assumption)
              have q267 : x58_4 < (l0.length : Int) := of_decide_eq_true (by first | (with_reducible assumption) | assumption)
              obtain ⟨ad267, e267, hx267_0, hx267_1, hx267_2⟩ := at_T25 HR0.out x58_4 p267 q267
              cases e267
              replace hx267_0 := (HB.out.cell (World.block_lt_of_cell? w _ hx267_0)).trans hx267_0
              replace hx267_1 := (HB.out.cell (World.block_lt_of_cell? w _ hx267_1)).trans hx267_1
              replace hx267_2 := (HB.out.cell (World.block_lt_of_cell? w _ hx267_2)).trans hx267_2
              replace p267 := eq_true p267
              replace q267 := eq_true q267
              go_wp2_with (first | ((with_reducible refine gate_dst (N := 10) rfl ?_); (try (refine gate_guard (by rfl) ?_; dsimp only)); refine box_event ?hg (N := 10) ?hd (cs := #[.string (⟨#[]⟩ : ByteArray), .int .u64 0, .int .u64 0]) (t := 25) ?hr ?_; (case hd => rfl); (case hg => rfl); (case hr => first | (go_simp; done) | (go_simp; rfl)); intro gb268 hg w45 hbox hb; have n0_ := Aside0.mk (blk_below (g := gb256) (o := .cells #[.string a2_0, .int .u64 a2_1, .int .u64 a2_2] 25 (0, 0)) (by (with_reducible repeat (first | refine blk_drewN ?_ _ | refine blk_drew ?_ | refine blk_alloc ?_ _)); exact BK256.out) hb); have n1_ := Aside0.mk (below_step (by repeat (first | (with_reducible first | exact HB.out | apply below_alloc | apply pw_below_drewN | apply below_drew1 | refine below_set ?_ GE256.out) | exact HB.out)) hb); have n2_ := Aside0.mk (hbox); have n3_ := Aside0.mk ((by rw [hg]; exact (below_size (by repeat (first | (with_reducible first | exact HB.out | apply below_alloc | apply pw_below_drewN | apply below_drew1 | refine below_set ?_ GE256.out) | exact HB.out))) : w.heap.size ≤ gb268)); have n4_ := Aside0.mk ((by rw [hg]; exact (below_size (by repeat (first | (with_reducible first | exact HB.out | apply below_alloc | apply pw_below_drewN | apply below_drew1 | refine below_set ?_ GE256.out) | exact HB.out))) : w.heap.size ≤ gb268)); have n5_ := Aside0.mk ((by rw [hg]; exact Nat.ne_of_lt (blk_lt (g := gb256) (o := .cells #[.string a2_0, .int .u64 a2_1, .int .u64 a2_2] 25 (0, 0)) (by (with_reducible repeat (first | refine blk_drewN ?_ _ | refine blk_drew ?_ | refine blk_alloc ?_ _)); exact BK256.out)) : gb256 ≠ gb268)); have n6_ := Aside0.mk ((by rw [hg]; exact Nat.ne_of_gt (blk_lt (g := gb256) (o := .cells #[.string a2_0, .int .u64 a2_1, .int .u64 a2_2] 25 (0, 0)) (by (with_reducible repeat (first | refine blk_drewN ?_ _ | refine blk_drew ?_ | refine blk_alloc ?_ _)); exact BK256.out)) : gb268 ≠ gb256)); clear BK256; clear HB; have BK256 := n0_; have HB := n1_; have BK268 := n2_; have GW268 := n3_; have GE268 := n4_; have NB256_268 := n5_; have NB268_256 := n6_; clear n0_ n1_ n2_ n3_ n4_ n5_ n6_; clear hb hbox hg; have hnb46 := NB268_256.out; have hnc46 := NB256_268.out; have hcz47_0 : w45.cell? ⟨gb268, 0, none⟩ = some (.string (⟨#[]⟩ : ByteArray)) := (blk_cell BK268.out 0).trans rfl; have hcz47_1 : w45.cell? ⟨gb268, 1, none⟩ = some (.int .u64 0) := (blk_cell BK268.out 1).trans rfl; have hcz47_2 : w45.cell? ⟨gb268, 2, none⟩ = some (.int .u64 0) := (blk_cell BK268.out 2).trans rfl; have hfz47_0 := blk_frozen BK268.out 0; have hfz47_1 := blk_frozen BK268.out 1; have hfz47_2 := blk_frozen BK268.out 2; have hcz48_0 : w45.cell? ⟨gb256, 0, none⟩ = some (.string a2_0) := (blk_cell BK256.out 0).trans rfl; have hcz48_1 : w45.cell? ⟨gb256, 1, none⟩ = some (.int .u64 a2_1) := (blk_cell BK256.out 1).trans rfl; have hcz48_2 : w45.cell? ⟨gb256, 2, none⟩ = some (.int .u64 a2_2) := (blk_cell BK256.out 2).trans rfl; have hfz48_0 := blk_frozen BK256.out 0; have hfz48_1 := blk_frozen BK256.out 1; have hfz48_2 := blk_frozen BK256.out 2) | ((with_reducible refine gate_callee (f := 23) rfl ?_); refine goesL_ (some 64) rfl rfl Try.func23 (by kernel_rfl) rfl #[.agg #[.string ((rd_T25 l0 x58_4).f0), .int .u64 ((rd_T25 l0 x58_4).f1), .int .u64 ((rd_T25 l0 x58_4).f2)], .agg #[.string a2_0, .int .u64 a2_1, .int .u64 a2_2]] rfl (by (try simp only [List.map_toArray, List.map_cons, List.map_nil]); first | done | rfl | (simp only [List.length_drop, List.length_take]; rfl)) ?_; (with_reducible refine (rank_Cmp.calls k4 ((rd_T25 l0 x58_4).f0) ((rd_T25 l0 x58_4).f1) ((rd_T25 l0 x58_4).f2) a2_0 a2_1 a2_2 t269 _ A36.out).mono ?_); rintro e w49 ⟨rfl, hb⟩; refine ⟨_, rfl, ?_⟩; have n0_ := Aside0.mk (blk_below (g := gb256) (o := .cells #[.string a2_0, .int .u64 a2_1, .int .u64 a2_2] 25 (0, 0)) (by (with_reducible repeat (first | refine blk_drewN ?_ _ | refine blk_drew ?_ | refine blk_alloc ?_ _)); refine blk_far ?_ NB256_268.out _; (with_reducible repeat (first | refine blk_drewN ?_ _ | refine blk_drew ?_ | refine blk_alloc ?_ _)); refine blk_far ?_ NB256_268.out _; (with_reducible repeat (first | refine blk_drewN ?_ _ | refine blk_drew ?_ | refine blk_alloc ?_ _)); refine blk_far ?_ NB256_268.out _; (with_reducible repeat (first | refine blk_drewN ?_ _ | refine blk_drew ?_ | refine blk_alloc ?_ _)); exact BK256.out) hb); have n1_ := Aside0.mk (blk_below (g := gb268) (o := .cells #[.string ((rd_T25 l0 x58_4).f0), .int .u64 ((rd_T25 l0 x58_4).f1), .int .u64 ((rd_T25 l0 x58_4).f2)] 25 (0, 0)) (by (with_reducible repeat (first | refine blk_drewN ?_ _ | refine blk_drew ?_ | refine blk_alloc ?_ _)); refine blk_put (cs := #[.string ((rd_T25 l0 x58_4).f0), .int .u64 ((rd_T25 l0 x58_4).f1), .int .u64 0]) ?_ 2 _ rfl; (with_reducible repeat (first | refine blk_drewN ?_ _ | refine blk_drew ?_ | refine blk_alloc ?_ _)); refine blk_put (cs := #[.string ((rd_T25 l0 x58_4).f0), .int .u64 0, .int .u64 0]) ?_ 1 _ rfl; (with_reducible repeat (first | refine blk_drewN ?_ _ | refine blk_drew ?_ | refine blk_alloc ?_ _)); refine blk_put (cs := #[.string (⟨#[]⟩ : ByteArray), .int .u64 0, .int .u64 0]) ?_ 0 _ rfl; (with_reducible repeat (first | refine blk_drewN ?_ _ | refine blk_drew ?_ | refine blk_alloc ?_ _)); exact BK268.out) hb); have n2_ := Aside0.mk (below_step (by repeat (first | (with_reducible first | exact HB.out | apply below_alloc | apply pw_below_drewN | apply below_drew1 | refine below_set ?_ GE256.out | refine below_set ?_ GE268.out) | exact HB.out)) hb); clear BK256; clear BK268; clear HB; have BK256 := n0_; have BK268 := n1_; have HB := n2_; clear n0_ n1_ n2_; (try clear hb); (try clear hb2); (try clear hk); (try clear hi)))
              go_roundg k4
              case measure => have := HJ3.out; have := HJ17.out; have := HJ19.out; have := HK4.out; omega
              case rel => exact ⟨(wrap64 (x58_4 + 1)), (by first | rfl | (simp; done) | (simp [*]; done)), H', ⟨by have := HJ3.out; have := HJ17.out; have := HJ19.out; have := HK4.out; omega⟩, ⟨by (with_reducible repeat (first | refine blk_drewN ?_ _ | refine blk_drew ?_ | refine blk_alloc ?_ _)); exact BK256.out⟩, ⟨by repeat (first | (with_reducible first | exact HB.out | apply below_alloc | apply pw_below_drewN | apply below_drew1 | refine below_set ?_ GE256.out | refine below_set ?_ GE268.out) | exact HB.out)⟩⟩
            ·
             rw [if_neg c35] at H
             exact absurd H (by simp)
           ·
            rw [if_neg c34] at H
            exact absurd H (by simp)
          ·
           rw [if_neg c33] at H
           have c33b0 : decide (x58_4 < (l0.length : Int)) = false := decide_eq_false c33
           clear c33
           replace H := Option.bind_eq_some_iff.mp H
           obtain ⟨⟨t271, t274⟩, A500, H⟩ := H
           replace H : ((heap_Pop.f k4 t271).bind fun bt275 => (if t274 = 0 then (if bt275.2.2.2.2 = 0 then (if (bt275.1.toList == a2_0.toList && (bt275.2.1 == a2_1 && (bt275.2.2.1 == a2_2))) = true then (if (bt275.2.2.2.1.length : Int) = (l0.length : Int) then ((heap_Right.f k4 bt275.2.2.2.1).bind fun t283 => (if t283 = true then ((samphirelaw11_awake.f k4).bind fun t284 => (some t284)) else (some false))) else (some false)) else (some false)) else (some false)) else (some false))) = some r := H
           have A50 := Aside0.mk A500
           clear A500
           replace H := Option.bind_eq_some_iff.mp H
           obtain ⟨⟨t275, t276, t277, t278, t281⟩, A510, H⟩ := H
           replace H : (if t274 = 0 then (if t281 = 0 then (if (t275.toList == a2_0.toList && (t276 == a2_1 && (t277 == a2_2))) = true then (if (t278.length : Int) = (l0.length : Int) then ((heap_Right.f k4 t278).bind fun t283 => (if t283 = true then ((samphirelaw11_awake.f k4).bind fun t284 => (some t284)) else (some false))) else (some false)) else (some false)) else (some false)) else (some false)) = some r := H
           have A51 := Aside0.mk A510
           clear A510
           by_cases c52 : t274 = 0
           ·
            rw [if_pos c52] at H
            have c52b0 : (t274 == 0) = true := beq_iff_eq.mpr c52
            have c52b1 : (t274 != 0) = false := bne_eq_false_iff_eq.mpr c52
            clear c52
            by_cases c53 : t281 = 0
            ·
             rw [if_pos c53] at H
             have c53b0 : (t281 == 0) = true := beq_iff_eq.mpr c53
             have c53b1 : (t281 != 0) = false := bne_eq_false_iff_eq.mpr c53
             clear c53
             by_cases c54 : (t275.toList == a2_0.toList && (t276 == a2_1 && (t277 == a2_2))) = true
             ·
              rw [if_pos c54] at H
              have c54b0 : (t275.toList == a2_0.toList && (t276 == a2_1 && (t277 == a2_2))) = true := c54
              (try (have c54b1 : decide (t275.toList = a2_0.toList && (t276 == a2_1 && (t277 == a2_2))) = true := by simpa using c54))
              (try (have c54b2 : (t275.toList == a2_0.toList && (t276 == a2_1 && (t277 == a2_2))) = true := by simpa using c54))
              clear c54
              by_cases c55 : (t278.length : Int) = (l0.length : Int)
              ·
               rw [if_pos c55] at H
               have c55b0 : ((t278.length : Int) == (l0.length : Int)) = true := beq_iff_eq.mpr c55
               have c55b1 : ((t278.length : Int) != (l0.length : Int)) = false := bne_eq_false_iff_eq.mpr c55
               have c55b2 : (t278.length == l0.length) = true := by first | simpa using c55 | (simp at c55 ⊢; omega)
               clear c55
               replace H := Option.bind_eq_some_iff.mp H
               obtain ⟨t283, A560, H⟩ := H
               replace H : (if t283 = true then ((samphirelaw11_awake.f k4).bind fun t284 => (some t284)) else (some false)) = some r := H
               have A56 := Aside0.mk A560
               clear A560
               by_cases c57 : t283 = true
               ·
                subst c57
                have H1 : ((samphirelaw11_awake.f k4).bind fun t284 => (some t284)) = some r := by rw [if_pos rfl] at H; exact H
                clear H
                have H := H1
                clear H1
                replace H := Option.bind_eq_some_iff.mp H
                obtain ⟨t284, A580, H⟩ := H
                replace H : (some t284) = some r := H
                have A58 := Aside0.mk A580
                clear A580
                obtain rfl := Option.some.inj H
                have hcz59_0 : wr.cell? ⟨gb256, 0, none⟩ = some (.string a2_0) := (blk_cell BK256.out 0).trans rfl
                have hcz59_1 : wr.cell? ⟨gb256, 1, none⟩ = some (.int .u64 a2_1) := (blk_cell BK256.out 1).trans rfl
                have hcz59_2 : wr.cell? ⟨gb256, 2, none⟩ = some (.int .u64 a2_2) := (blk_cell BK256.out 2).trans rfl
                have hfz59_0 := blk_frozen BK256.out 0
                have hfz59_1 := blk_frozen BK256.out 1
                have hfz59_2 := blk_frozen BK256.out 2
                go_wp2_with (first | ((with_reducible refine gate_callee (f := 10) rfl ?_); refine goesL_ (some 71) rfl rfl Try.func10 (by kernel_rfl) rfl #[.slice A0 l0.length c0, .agg #[.string a2_0, .int .u64 a2_1, .int .u64 a2_2]] rfl (by (try simp only [List.map_toArray, List.map_cons, List.map_nil]); first | done | rfl | (simp only [List.length_drop, List.length_take]; rfl)) ?_; (with_reducible refine (heap_Push.calls k4 (fun k_ => k_ < w.heap.size) _ _ l0 a2_0 a2_1 a2_2 t271 t274 _ ?side1 A50.out).mono ?_); (case side1 => exact Kd.V_mk HC0.out (Kd.F_below (Kd.C_F k25_heap HR0.out) (by repeat (first | (with_reducible first | exact HB.out | apply below_alloc | apply pw_below_drewN | apply below_drew1 | refine below_set ?_ GE256.out) | exact HB.out)))); rintro e w60 ⟨v272, rfl, ho0, hb⟩; refine ⟨_, rfl, ?_⟩; have n0_ := Aside0.mk (Kd.V_lower (Kd.V_mono (ok' := fun k_ => k_ ≠ gb256) ho0 (fun k_ hk_ => Or.elim hk_ (fun hs_ => fun e_ => Nat.not_le.2 hs_ (by rw [e_]; exact GW256.out)) (fun hn_ => (Kd.freshB (g := gb256) (o := .cells #[.string a2_0, .int .u64 a2_1, .int .u64 a2_2] 25 (0, 0)) (by (with_reducible repeat (first | refine blk_drewN ?_ _ | refine blk_drew ?_ | refine blk_alloc ?_ _)); exact BK256.out) k_ hn_)))) (below_size (by repeat (first | (with_reducible first | exact HB.out | apply below_alloc | apply pw_below_drewN | apply below_drew1 | refine below_set ?_ GE256.out) | exact HB.out)))); have n1_ := Aside0.mk (blk_below (g := gb256) (o := .cells #[.string a2_0, .int .u64 a2_1, .int .u64 a2_2] 25 (0, 0)) (by (with_reducible repeat (first | refine blk_drewN ?_ _ | refine blk_drew ?_ | refine blk_alloc ?_ _)); exact BK256.out) hb); have n2_ := Aside0.mk (below_step (by repeat (first | (with_reducible first | exact HB.out | apply below_alloc | apply pw_below_drewN | apply below_drew1 | refine below_set ?_ GE256.out) | exact HB.out)) hb); clear BK256; clear HB; have HO273 := n0_; have BK256 := n1_; have HB := n2_; clear n0_ n1_ n2_; (try clear hb); (try clear hb2); (try clear hk); (try clear hi); (try clear ho0); obtain ⟨Ao61, co61, eo61⟩ := Kd.V_slice HO273.out; subst eo61) | ((with_reducible refine gate_callee (f := 11) rfl ?_); refine goesL_ (some 76) rfl rfl Try.func11 (by kernel_rfl) rfl #[.slice Ao61 t271.length co61] rfl (by (try simp only [List.map_toArray, List.map_cons, List.map_nil]); first | done | rfl | (simp only [List.length_drop, List.length_take]; rfl)) ?_; (with_reducible refine (heap_Pop.calls k4 (fun k_ => k_ ≠ gb256) _ _ t271 t275 t276 t277 t278 t281 _ ?side1 A51.out).mono ?_); (case side1 => exact HO273.out); rintro e w62 ⟨v279, rfl, ho0, hb⟩; refine ⟨_, rfl, ?_⟩; have n0_ := Aside0.mk (Kd.V_below (by (with_reducible repeat (first | apply Kd.V_alloc | apply Kd.V_drewN | apply Kd.V_drew)); exact HO273.out) hb); have n1_ := Aside0.mk (Kd.V_lower (Kd.V_mono (ok' := fun k_ => k_ ≠ gb256) ho0 (fun k_ hk_ => Or.elim hk_ (fun hs_ => hs_) (fun hn_ => (Kd.freshB (g := gb256) (o := .cells #[.string a2_0, .int .u64 a2_1, .int .u64 a2_2] 25 (0, 0)) (by (with_reducible repeat (first | refine blk_drewN ?_ _ | refine blk_drew ?_ | refine blk_alloc ?_ _)); exact BK256.out) k_ hn_)))) (below_size (by repeat (first | (with_reducible first | exact HB.out | apply below_alloc | apply pw_below_drewN | apply below_drew1 | refine below_set ?_ GE256.out) | exact HB.out)))); have n2_ := Aside0.mk (blk_below (g := gb256) (o := .cells #[.string a2_0, .int .u64 a2_1, .int .u64 a2_2] 25 (0, 0)) (by (with_reducible repeat (first | refine blk_drewN ?_ _ | refine blk_drew ?_ | refine blk_alloc ?_ _)); exact BK256.out) hb); have n3_ := Aside0.mk (below_step (by repeat (first | (with_reducible first | exact HB.out | apply below_alloc | apply pw_below_drewN | apply below_drew1 | refine below_set ?_ GE256.out) | exact HB.out)) hb); clear HO273; clear BK256; clear HB; have HO273 := n0_; have HO280 := n1_; have BK256 := n2_; have HB := n3_; clear n0_ n1_ n2_ n3_; (try clear hb); (try clear hb2); (try clear hk); (try clear hi); (try clear ho0)) | ((with_reducible refine gate_dst (N := 13) rfl ?_); (try (refine gate_guard (by rfl) ?_; dsimp only)); refine box_event ?hg (N := 13) ?hd (cs := #[.string (⟨#[]⟩ : ByteArray), .int .u64 0, .int .u64 0]) (t := 25) ?hr ?_; (case hd => rfl); (case hg => rfl); (case hr => first | (go_simp; done) | (go_simp; rfl)); intro gb282 hg w63 hbox hb; have n0_ := Aside0.mk (Kd.V_below (Kd.V_elderB (by (with_reducible repeat (first | apply Kd.V_alloc | apply Kd.V_drewN | apply Kd.V_drew)); exact HO273.out) gb282 (Nat.le_of_eq hg.symm)) hb); have n1_ := Aside0.mk (Kd.V_below (Kd.V_elderB (by (with_reducible repeat (first | apply Kd.V_alloc | apply Kd.V_drewN | apply Kd.V_drew)); exact HO280.out) gb282 (Nat.le_of_eq hg.symm)) hb); have n2_ := Aside0.mk (blk_below (g := gb256) (o := .cells #[.string a2_0, .int .u64 a2_1, .int .u64 a2_2] 25 (0, 0)) (by (with_reducible repeat (first | refine blk_drewN ?_ _ | refine blk_drew ?_ | refine blk_alloc ?_ _)); exact BK256.out) hb); have n3_ := Aside0.mk (below_step (by repeat (first | (with_reducible first | exact HB.out | apply below_alloc | apply pw_below_drewN | apply below_drew1 | refine below_set ?_ GE256.out) | exact HB.out)) hb); have n4_ := Aside0.mk (hbox); have n5_ := Aside0.mk ((by rw [hg]; exact (below_size (by repeat (first | (with_reducible first | exact HB.out | apply below_alloc | apply pw_below_drewN | apply below_drew1 | refine below_set ?_ GE256.out) | exact HB.out))) : w.heap.size ≤ gb282)); have n6_ := Aside0.mk ((by rw [hg]; exact (below_size (by repeat (first | (with_reducible first | exact HB.out | apply below_alloc | apply pw_below_drewN | apply below_drew1 | refine below_set ?_ GE256.out) | exact HB.out))) : w.heap.size ≤ gb282)); have n7_ := Aside0.mk ((by rw [hg]; exact Nat.ne_of_lt (blk_lt (g := gb256) (o := .cells #[.string a2_0, .int .u64 a2_1, .int .u64 a2_2] 25 (0, 0)) (by (with_reducible repeat (first | refine blk_drewN ?_ _ | refine blk_drew ?_ | refine blk_alloc ?_ _)); exact BK256.out)) : gb256 ≠ gb282)); have n8_ := Aside0.mk ((by rw [hg]; exact Nat.ne_of_gt (blk_lt (g := gb256) (o := .cells #[.string a2_0, .int .u64 a2_1, .int .u64 a2_2] 25 (0, 0)) (by (with_reducible repeat (first | refine blk_drewN ?_ _ | refine blk_drew ?_ | refine blk_alloc ?_ _)); exact BK256.out)) : gb282 ≠ gb256)); clear HO273; clear HO280; clear BK256; clear HB; have HO273 := n0_; have HO280 := n1_; have BK256 := n2_; have HB := n3_; have BK282 := n4_; have GW282 := n5_; have GE282 := n6_; have NB256_282 := n7_; have NB282_256 := n8_; clear n0_ n1_ n2_ n3_ n4_ n5_ n6_ n7_ n8_; clear hb hbox hg; have hnb64 := NB282_256.out; have hnc64 := NB256_282.out; have hcz65_0 : w63.cell? ⟨gb282, 0, none⟩ = some (.string (⟨#[]⟩ : ByteArray)) := (blk_cell BK282.out 0).trans rfl; have hcz65_1 : w63.cell? ⟨gb282, 1, none⟩ = some (.int .u64 0) := (blk_cell BK282.out 1).trans rfl; have hcz65_2 : w63.cell? ⟨gb282, 2, none⟩ = some (.int .u64 0) := (blk_cell BK282.out 2).trans rfl; have hfz65_0 := blk_frozen BK282.out 0; have hfz65_1 := blk_frozen BK282.out 1; have hfz65_2 := blk_frozen BK282.out 2; have hcz66_0 : w63.cell? ⟨gb256, 0, none⟩ = some (.string a2_0) := (blk_cell BK256.out 0).trans rfl; have hcz66_1 : w63.cell? ⟨gb256, 1, none⟩ = some (.int .u64 a2_1) := (blk_cell BK256.out 1).trans rfl; have hcz66_2 : w63.cell? ⟨gb256, 2, none⟩ = some (.int .u64 a2_2) := (blk_cell BK256.out 2).trans rfl; have hfz66_0 := blk_frozen BK256.out 0; have hfz66_1 := blk_frozen BK256.out 1; have hfz66_2 := blk_frozen BK256.out 2; obtain ⟨Ao67, co67, eo67⟩ := Kd.V_slice HO280.out; subst eo67) | (go_at_call 15; (with_reducible refine (heap_Right.calls k4 _ _ t278 true _ ?side1 ?side2 A56.out).mono ?_); (case side1 => refine (Kd.V_reads' (e := 25) (base := w.heap.size) (ok := fun k_ => (k_ ≠ gb256 ∧ k_ ≠ gb282)) (n := t278.length) (c := co67) ?_).2.2; exact (by (with_reducible repeat (first | apply Kd.V_alloc | apply Kd.V_drewN | apply Kd.V_drew)); exact (Kd.V_mono (Kd.V_far (p := ⟨gb282, 2, none⟩) (Kd.V_far (p := ⟨gb282, 1, none⟩) (Kd.V_far (p := ⟨gb282, 0, none⟩) (Kd.V_mono HO280.out (fun k_ hk => (⟨hk, hk.2⟩ : _ ∧ k_ ≠ gb282))) (fun _ hk => hk.2) (.string t275)) (fun _ hk => hk.2) (.int .u64 t276)) (fun _ hk => hk.2) (.int .u64 t277)) (fun _ h_ => h_.1)))); (case side2 => exact (Kd.V_reads' HO280.out).2.1); rintro e w68 ⟨rfl, hb⟩; have n0_ := Aside0.mk (Kd.V_below (by (with_reducible repeat (first | apply Kd.V_alloc | apply Kd.V_drewN | apply Kd.V_drew)); exact (Kd.V_mono (Kd.V_far (p := ⟨gb282, 2, none⟩) (Kd.V_far (p := ⟨gb282, 1, none⟩) (Kd.V_far (p := ⟨gb282, 0, none⟩) (Kd.V_mono HO273.out (fun k_ hk => (⟨hk, hk.2⟩ : _ ∧ k_ ≠ gb282))) (fun _ hk => hk.2) (.string t275)) (fun _ hk => hk.2) (.int .u64 t276)) (fun _ hk => hk.2) (.int .u64 t277)) (fun _ h_ => h_.1))) hb); have n1_ := Aside0.mk (Kd.V_below (by (with_reducible repeat (first | apply Kd.V_alloc | apply Kd.V_drewN | apply Kd.V_drew)); exact (Kd.V_mono (Kd.V_far (p := ⟨gb282, 2, none⟩) (Kd.V_far (p := ⟨gb282, 1, none⟩) (Kd.V_far (p := ⟨gb282, 0, none⟩) (Kd.V_mono HO280.out (fun k_ hk => (⟨hk, hk.2⟩ : _ ∧ k_ ≠ gb282))) (fun _ hk => hk.2) (.string t275)) (fun _ hk => hk.2) (.int .u64 t276)) (fun _ hk => hk.2) (.int .u64 t277)) (fun _ h_ => h_.1))) hb); have n2_ := Aside0.mk (blk_below (g := gb256) (o := .cells #[.string a2_0, .int .u64 a2_1, .int .u64 a2_2] 25 (0, 0)) (by (with_reducible repeat (first | refine blk_drewN ?_ _ | refine blk_drew ?_ | refine blk_alloc ?_ _)); refine blk_far ?_ NB256_282.out _; (with_reducible repeat (first | refine blk_drewN ?_ _ | refine blk_drew ?_ | refine blk_alloc ?_ _)); refine blk_far ?_ NB256_282.out _; (with_reducible repeat (first | refine blk_drewN ?_ _ | refine blk_drew ?_ | refine blk_alloc ?_ _)); refine blk_far ?_ NB256_282.out _; (with_reducible repeat (first | refine blk_drewN ?_ _ | refine blk_drew ?_ | refine blk_alloc ?_ _)); exact BK256.out) hb); have n3_ := Aside0.mk (blk_below (g := gb282) (o := .cells #[.string t275, .int .u64 t276, .int .u64 t277] 25 (0, 0)) (by (with_reducible repeat (first | refine blk_drewN ?_ _ | refine blk_drew ?_ | refine blk_alloc ?_ _)); refine blk_put (cs := #[.string t275, .int .u64 t276, .int .u64 0]) ?_ 2 _ rfl; (with_reducible repeat (first | refine blk_drewN ?_ _ | refine blk_drew ?_ | refine blk_alloc ?_ _)); refine blk_put (cs := #[.string t275, .int .u64 0, .int .u64 0]) ?_ 1 _ rfl; (with_reducible repeat (first | refine blk_drewN ?_ _ | refine blk_drew ?_ | refine blk_alloc ?_ _)); refine blk_put (cs := #[.string (⟨#[]⟩ : ByteArray), .int .u64 0, .int .u64 0]) ?_ 0 _ rfl; (with_reducible repeat (first | refine blk_drewN ?_ _ | refine blk_drew ?_ | refine blk_alloc ?_ _)); exact BK282.out) hb); have n4_ := Aside0.mk (below_step (by repeat (first | (with_reducible first | exact HB.out | apply below_alloc | apply pw_below_drewN | apply below_drew1 | refine below_set ?_ GE256.out | refine below_set ?_ GE282.out) | exact HB.out)) hb); clear HO273; clear HO280; clear BK256; clear BK282; clear HB; have HO273 := n0_; have HO280 := n1_; have BK256 := n2_; have BK282 := n3_; have HB := n4_; clear n0_ n1_ n2_ n3_ n4_; (try clear hb); (try clear hb2); (try clear hk); (try clear hi)) | (go_at_call 9; (with_reducible refine (samphirelaw11_awake.calls k4  t284 _ A58.out).mono ?_); rintro e w69 ⟨rfl, hb⟩; have n0_ := Aside0.mk (Kd.V_below (by (with_reducible repeat (first | apply Kd.V_alloc | apply Kd.V_drewN | apply Kd.V_drew)); exact HO273.out) hb); have n1_ := Aside0.mk (Kd.V_below (by (with_reducible repeat (first | apply Kd.V_alloc | apply Kd.V_drewN | apply Kd.V_drew)); exact HO280.out) hb); have n2_ := Aside0.mk (blk_below (g := gb256) (o := .cells #[.string a2_0, .int .u64 a2_1, .int .u64 a2_2] 25 (0, 0)) (by (with_reducible repeat (first | refine blk_drewN ?_ _ | refine blk_drew ?_ | refine blk_alloc ?_ _)); exact BK256.out) hb); have n3_ := Aside0.mk (blk_below (g := gb282) (o := .cells #[.string t275, .int .u64 t276, .int .u64 t277] 25 (0, 0)) (by (with_reducible repeat (first | refine blk_drewN ?_ _ | refine blk_drew ?_ | refine blk_alloc ?_ _)); exact BK282.out) hb); have n4_ := Aside0.mk (below_step (by repeat (first | (with_reducible first | exact HB.out | apply below_alloc | apply pw_below_drewN | apply below_drew1 | refine below_set ?_ GE256.out | refine below_set ?_ GE282.out) | exact HB.out)) hb); clear HO273; clear HO280; clear BK256; clear BK282; clear HB; have HO273 := n0_; have HO280 := n1_; have BK256 := n2_; have BK282 := n3_; have HB := n4_; clear n0_ n1_ n2_ n3_ n4_; (try clear hb); (try clear hb2); (try clear hk); (try clear hi)))
                go_ret
                exact ⟨by first | rfl | (simp [errW_none, errW_some] <;> rfl) | (simp [*, errW_none, errW_some] <;> rfl), by repeat (first | (with_reducible first | exact HB.out | apply below_alloc | apply pw_below_drewN | apply below_drew1 | refine below_set ?_ GE256.out | refine below_set ?_ GE282.out) | exact HB.out)⟩
               ·
                replace c57 := Bool.eq_false_iff.mpr c57
                subst c57
                have H1 : (some false) = some r := by rw [if_neg (show ¬ (false = true) by decide)] at H; exact H
                clear H
                have H := H1
                clear H1
                obtain rfl := Option.some.inj H
                have hcz70_0 : wr.cell? ⟨gb256, 0, none⟩ = some (.string a2_0) := (blk_cell BK256.out 0).trans rfl
                have hcz70_1 : wr.cell? ⟨gb256, 1, none⟩ = some (.int .u64 a2_1) := (blk_cell BK256.out 1).trans rfl
                have hcz70_2 : wr.cell? ⟨gb256, 2, none⟩ = some (.int .u64 a2_2) := (blk_cell BK256.out 2).trans rfl
                have hfz70_0 := blk_frozen BK256.out 0
                have hfz70_1 := blk_frozen BK256.out 1
                have hfz70_2 := blk_frozen BK256.out 2
                go_wp2_with (first | ((with_reducible refine gate_callee (f := 10) rfl ?_); refine goesL_ (some 71) rfl rfl Try.func10 (by kernel_rfl) rfl #[.slice A0 l0.length c0, .agg #[.string a2_0, .int .u64 a2_1, .int .u64 a2_2]] rfl (by (try simp only [List.map_toArray, List.map_cons, List.map_nil]); first | done | rfl | (simp only [List.length_drop, List.length_take]; rfl)) ?_; (with_reducible refine (heap_Push.calls k4 (fun k_ => k_ < w.heap.size) _ _ l0 a2_0 a2_1 a2_2 t271 t274 _ ?side1 A50.out).mono ?_); (case side1 => exact Kd.V_mk HC0.out (Kd.F_below (Kd.C_F k25_heap HR0.out) (by repeat (first | (with_reducible first | exact HB.out | apply below_alloc | apply pw_below_drewN | apply below_drew1 | refine below_set ?_ GE256.out) | exact HB.out)))); rintro e w71 ⟨v272, rfl, ho0, hb⟩; refine ⟨_, rfl, ?_⟩; have n0_ := Aside0.mk (Kd.V_lower (Kd.V_mono (ok' := fun k_ => k_ ≠ gb256) ho0 (fun k_ hk_ => Or.elim hk_ (fun hs_ => fun e_ => Nat.not_le.2 hs_ (by rw [e_]; exact GW256.out)) (fun hn_ => (Kd.freshB (g := gb256) (o := .cells #[.string a2_0, .int .u64 a2_1, .int .u64 a2_2] 25 (0, 0)) (by (with_reducible repeat (first | refine blk_drewN ?_ _ | refine blk_drew ?_ | refine blk_alloc ?_ _)); exact BK256.out) k_ hn_)))) (below_size (by repeat (first | (with_reducible first | exact HB.out | apply below_alloc | apply pw_below_drewN | apply below_drew1 | refine below_set ?_ GE256.out) | exact HB.out)))); have n1_ := Aside0.mk (blk_below (g := gb256) (o := .cells #[.string a2_0, .int .u64 a2_1, .int .u64 a2_2] 25 (0, 0)) (by (with_reducible repeat (first | refine blk_drewN ?_ _ | refine blk_drew ?_ | refine blk_alloc ?_ _)); exact BK256.out) hb); have n2_ := Aside0.mk (below_step (by repeat (first | (with_reducible first | exact HB.out | apply below_alloc | apply pw_below_drewN | apply below_drew1 | refine below_set ?_ GE256.out) | exact HB.out)) hb); clear BK256; clear HB; have HO273 := n0_; have BK256 := n1_; have HB := n2_; clear n0_ n1_ n2_; (try clear hb); (try clear hb2); (try clear hk); (try clear hi); (try clear ho0); obtain ⟨Ao72, co72, eo72⟩ := Kd.V_slice HO273.out; subst eo72) | ((with_reducible refine gate_callee (f := 11) rfl ?_); refine goesL_ (some 76) rfl rfl Try.func11 (by kernel_rfl) rfl #[.slice Ao72 t271.length co72] rfl (by (try simp only [List.map_toArray, List.map_cons, List.map_nil]); first | done | rfl | (simp only [List.length_drop, List.length_take]; rfl)) ?_; (with_reducible refine (heap_Pop.calls k4 (fun k_ => k_ ≠ gb256) _ _ t271 t275 t276 t277 t278 t281 _ ?side1 A51.out).mono ?_); (case side1 => exact HO273.out); rintro e w73 ⟨v279, rfl, ho0, hb⟩; refine ⟨_, rfl, ?_⟩; have n0_ := Aside0.mk (Kd.V_below (by (with_reducible repeat (first | apply Kd.V_alloc | apply Kd.V_drewN | apply Kd.V_drew)); exact HO273.out) hb); have n1_ := Aside0.mk (Kd.V_lower (Kd.V_mono (ok' := fun k_ => k_ ≠ gb256) ho0 (fun k_ hk_ => Or.elim hk_ (fun hs_ => hs_) (fun hn_ => (Kd.freshB (g := gb256) (o := .cells #[.string a2_0, .int .u64 a2_1, .int .u64 a2_2] 25 (0, 0)) (by (with_reducible repeat (first | refine blk_drewN ?_ _ | refine blk_drew ?_ | refine blk_alloc ?_ _)); exact BK256.out) k_ hn_)))) (below_size (by repeat (first | (with_reducible first | exact HB.out | apply below_alloc | apply pw_below_drewN | apply below_drew1 | refine below_set ?_ GE256.out) | exact HB.out)))); have n2_ := Aside0.mk (blk_below (g := gb256) (o := .cells #[.string a2_0, .int .u64 a2_1, .int .u64 a2_2] 25 (0, 0)) (by (with_reducible repeat (first | refine blk_drewN ?_ _ | refine blk_drew ?_ | refine blk_alloc ?_ _)); exact BK256.out) hb); have n3_ := Aside0.mk (below_step (by repeat (first | (with_reducible first | exact HB.out | apply below_alloc | apply pw_below_drewN | apply below_drew1 | refine below_set ?_ GE256.out) | exact HB.out)) hb); clear HO273; clear BK256; clear HB; have HO273 := n0_; have HO280 := n1_; have BK256 := n2_; have HB := n3_; clear n0_ n1_ n2_ n3_; (try clear hb); (try clear hb2); (try clear hk); (try clear hi); (try clear ho0)) | ((with_reducible refine gate_dst (N := 13) rfl ?_); (try (refine gate_guard (by rfl) ?_; dsimp only)); refine box_event ?hg (N := 13) ?hd (cs := #[.string (⟨#[]⟩ : ByteArray), .int .u64 0, .int .u64 0]) (t := 25) ?hr ?_; (case hd => rfl); (case hg => rfl); (case hr => first | (go_simp; done) | (go_simp; rfl)); intro gb282 hg w74 hbox hb; have n0_ := Aside0.mk (Kd.V_below (Kd.V_elderB (by (with_reducible repeat (first | apply Kd.V_alloc | apply Kd.V_drewN | apply Kd.V_drew)); exact HO273.out) gb282 (Nat.le_of_eq hg.symm)) hb); have n1_ := Aside0.mk (Kd.V_below (Kd.V_elderB (by (with_reducible repeat (first | apply Kd.V_alloc | apply Kd.V_drewN | apply Kd.V_drew)); exact HO280.out) gb282 (Nat.le_of_eq hg.symm)) hb); have n2_ := Aside0.mk (blk_below (g := gb256) (o := .cells #[.string a2_0, .int .u64 a2_1, .int .u64 a2_2] 25 (0, 0)) (by (with_reducible repeat (first | refine blk_drewN ?_ _ | refine blk_drew ?_ | refine blk_alloc ?_ _)); exact BK256.out) hb); have n3_ := Aside0.mk (below_step (by repeat (first | (with_reducible first | exact HB.out | apply below_alloc | apply pw_below_drewN | apply below_drew1 | refine below_set ?_ GE256.out) | exact HB.out)) hb); have n4_ := Aside0.mk (hbox); have n5_ := Aside0.mk ((by rw [hg]; exact (below_size (by repeat (first | (with_reducible first | exact HB.out | apply below_alloc | apply pw_below_drewN | apply below_drew1 | refine below_set ?_ GE256.out) | exact HB.out))) : w.heap.size ≤ gb282)); have n6_ := Aside0.mk ((by rw [hg]; exact (below_size (by repeat (first | (with_reducible first | exact HB.out | apply below_alloc | apply pw_below_drewN | apply below_drew1 | refine below_set ?_ GE256.out) | exact HB.out))) : w.heap.size ≤ gb282)); have n7_ := Aside0.mk ((by rw [hg]; exact Nat.ne_of_lt (blk_lt (g := gb256) (o := .cells #[.string a2_0, .int .u64 a2_1, .int .u64 a2_2] 25 (0, 0)) (by (with_reducible repeat (first | refine blk_drewN ?_ _ | refine blk_drew ?_ | refine blk_alloc ?_ _)); exact BK256.out)) : gb256 ≠ gb282)); have n8_ := Aside0.mk ((by rw [hg]; exact Nat.ne_of_gt (blk_lt (g := gb256) (o := .cells #[.string a2_0, .int .u64 a2_1, .int .u64 a2_2] 25 (0, 0)) (by (with_reducible repeat (first | refine blk_drewN ?_ _ | refine blk_drew ?_ | refine blk_alloc ?_ _)); exact BK256.out)) : gb282 ≠ gb256)); clear HO273; clear HO280; clear BK256; clear HB; have HO273 := n0_; have HO280 := n1_; have BK256 := n2_; have HB := n3_; have BK282 := n4_; have GW282 := n5_; have GE282 := n6_; have NB256_282 := n7_; have NB282_256 := n8_; clear n0_ n1_ n2_ n3_ n4_ n5_ n6_ n7_ n8_; clear hb hbox hg; have hnb75 := NB282_256.out; have hnc75 := NB256_282.out; have hcz76_0 : w74.cell? ⟨gb282, 0, none⟩ = some (.string (⟨#[]⟩ : ByteArray)) := (blk_cell BK282.out 0).trans rfl; have hcz76_1 : w74.cell? ⟨gb282, 1, none⟩ = some (.int .u64 0) := (blk_cell BK282.out 1).trans rfl; have hcz76_2 : w74.cell? ⟨gb282, 2, none⟩ = some (.int .u64 0) := (blk_cell BK282.out 2).trans rfl; have hfz76_0 := blk_frozen BK282.out 0; have hfz76_1 := blk_frozen BK282.out 1; have hfz76_2 := blk_frozen BK282.out 2; have hcz77_0 : w74.cell? ⟨gb256, 0, none⟩ = some (.string a2_0) := (blk_cell BK256.out 0).trans rfl; have hcz77_1 : w74.cell? ⟨gb256, 1, none⟩ = some (.int .u64 a2_1) := (blk_cell BK256.out 1).trans rfl; have hcz77_2 : w74.cell? ⟨gb256, 2, none⟩ = some (.int .u64 a2_2) := (blk_cell BK256.out 2).trans rfl; have hfz77_0 := blk_frozen BK256.out 0; have hfz77_1 := blk_frozen BK256.out 1; have hfz77_2 := blk_frozen BK256.out 2; obtain ⟨Ao78, co78, eo78⟩ := Kd.V_slice HO280.out; subst eo78) | (go_at_call 15; (with_reducible refine (heap_Right.calls k4 _ _ t278 false _ ?side1 ?side2 A56.out).mono ?_); (case side1 => refine (Kd.V_reads' (e := 25) (base := w.heap.size) (ok := fun k_ => (k_ ≠ gb256 ∧ k_ ≠ gb282)) (n := t278.length) (c := co78) ?_).2.2; exact (by (with_reducible repeat (first | apply Kd.V_alloc | apply Kd.V_drewN | apply Kd.V_drew)); exact (Kd.V_mono (Kd.V_far (p := ⟨gb282, 2, none⟩) (Kd.V_far (p := ⟨gb282, 1, none⟩) (Kd.V_far (p := ⟨gb282, 0, none⟩) (Kd.V_mono HO280.out (fun k_ hk => (⟨hk, hk.2⟩ : _ ∧ k_ ≠ gb282))) (fun _ hk => hk.2) (.string t275)) (fun _ hk => hk.2) (.int .u64 t276)) (fun _ hk => hk.2) (.int .u64 t277)) (fun _ h_ => h_.1)))); (case side2 => exact (Kd.V_reads' HO280.out).2.1); rintro e w79 ⟨rfl, hb⟩; have n0_ := Aside0.mk (Kd.V_below (by (with_reducible repeat (first | apply Kd.V_alloc | apply Kd.V_drewN | apply Kd.V_drew)); exact (Kd.V_mono (Kd.V_far (p := ⟨gb282, 2, none⟩) (Kd.V_far (p := ⟨gb282, 1, none⟩) (Kd.V_far (p := ⟨gb282, 0, none⟩) (Kd.V_mono HO273.out (fun k_ hk => (⟨hk, hk.2⟩ : _ ∧ k_ ≠ gb282))) (fun _ hk => hk.2) (.string t275)) (fun _ hk => hk.2) (.int .u64 t276)) (fun _ hk => hk.2) (.int .u64 t277)) (fun _ h_ => h_.1))) hb); have n1_ := Aside0.mk (Kd.V_below (by (with_reducible repeat (first | apply Kd.V_alloc | apply Kd.V_drewN | apply Kd.V_drew)); exact (Kd.V_mono (Kd.V_far (p := ⟨gb282, 2, none⟩) (Kd.V_far (p := ⟨gb282, 1, none⟩) (Kd.V_far (p := ⟨gb282, 0, none⟩) (Kd.V_mono HO280.out (fun k_ hk => (⟨hk, hk.2⟩ : _ ∧ k_ ≠ gb282))) (fun _ hk => hk.2) (.string t275)) (fun _ hk => hk.2) (.int .u64 t276)) (fun _ hk => hk.2) (.int .u64 t277)) (fun _ h_ => h_.1))) hb); have n2_ := Aside0.mk (blk_below (g := gb256) (o := .cells #[.string a2_0, .int .u64 a2_1, .int .u64 a2_2] 25 (0, 0)) (by (with_reducible repeat (first | refine blk_drewN ?_ _ | refine blk_drew ?_ | refine blk_alloc ?_ _)); refine blk_far ?_ NB256_282.out _; (with_reducible repeat (first | refine blk_drewN ?_ _ | refine blk_drew ?_ | refine blk_alloc ?_ _)); refine blk_far ?_ NB256_282.out _; (with_reducible repeat (first | refine blk_drewN ?_ _ | refine blk_drew ?_ | refine blk_alloc ?_ _)); refine blk_far ?_ NB256_282.out _; (with_reducible repeat (first | refine blk_drewN ?_ _ | refine blk_drew ?_ | refine blk_alloc ?_ _)); exact BK256.out) hb); have n3_ := Aside0.mk (blk_below (g := gb282) (o := .cells #[.string t275, .int .u64 t276, .int .u64 t277] 25 (0, 0)) (by (with_reducible repeat (first | refine blk_drewN ?_ _ | refine blk_drew ?_ | refine blk_alloc ?_ _)); refine blk_put (cs := #[.string t275, .int .u64 t276, .int .u64 0]) ?_ 2 _ rfl; (with_reducible repeat (first | refine blk_drewN ?_ _ | refine blk_drew ?_ | refine blk_alloc ?_ _)); refine blk_put (cs := #[.string t275, .int .u64 0, .int .u64 0]) ?_ 1 _ rfl; (with_reducible repeat (first | refine blk_drewN ?_ _ | refine blk_drew ?_ | refine blk_alloc ?_ _)); refine blk_put (cs := #[.string (⟨#[]⟩ : ByteArray), .int .u64 0, .int .u64 0]) ?_ 0 _ rfl; (with_reducible repeat (first | refine blk_drewN ?_ _ | refine blk_drew ?_ | refine blk_alloc ?_ _)); exact BK282.out) hb); have n4_ := Aside0.mk (below_step (by repeat (first | (with_reducible first | exact HB.out | apply below_alloc | apply pw_below_drewN | apply below_drew1 | refine below_set ?_ GE256.out | refine below_set ?_ GE282.out) | exact HB.out)) hb); clear HO273; clear HO280; clear BK256; clear BK282; clear HB; have HO273 := n0_; have HO280 := n1_; have BK256 := n2_; have BK282 := n3_; have HB := n4_; clear n0_ n1_ n2_ n3_ n4_; (try clear hb); (try clear hb2); (try clear hk); (try clear hi)))
                go_ret
                exact ⟨by first | rfl | (simp [errW_none, errW_some] <;> rfl) | (simp [*, errW_none, errW_some] <;> rfl), by repeat (first | (with_reducible first | exact HB.out | apply below_alloc | apply pw_below_drewN | apply below_drew1 | refine below_set ?_ GE256.out | refine below_set ?_ GE282.out) | exact HB.out)⟩
              ·
               rw [if_neg c55] at H
               have c55b0 : ((t278.length : Int) == (l0.length : Int)) = false := beq_eq_false_iff_ne.mpr c55
               have c55b1 : ((t278.length : Int) != (l0.length : Int)) = true := bne_iff_ne.mpr c55
               have c55b2 : (t278.length == l0.length) = false := by first | simpa using c55 | (simp at c55 ⊢; omega)
               obtain rfl := Option.some.inj H
               have hcz80_0 : wr.cell? ⟨gb256, 0, none⟩ = some (.string a2_0) := (blk_cell BK256.out 0).trans rfl
               have hcz80_1 : wr.cell? ⟨gb256, 1, none⟩ = some (.int .u64 a2_1) := (blk_cell BK256.out 1).trans rfl
               have hcz80_2 : wr.cell? ⟨gb256, 2, none⟩ = some (.int .u64 a2_2) := (blk_cell BK256.out 2).trans rfl
               have hfz80_0 := blk_frozen BK256.out 0
               have hfz80_1 := blk_frozen BK256.out 1
               have hfz80_2 := blk_frozen BK256.out 2
               go_wp2_with (first | ((with_reducible refine gate_callee (f := 10) rfl ?_); refine goesL_ (some 71) rfl rfl Try.func10 (by kernel_rfl) rfl #[.slice A0 l0.length c0, .agg #[.string a2_0, .int .u64 a2_1, .int .u64 a2_2]] rfl (by (try simp only [List.map_toArray, List.map_cons, List.map_nil]); first | done | rfl | (simp only [List.length_drop, List.length_take]; rfl)) ?_; (with_reducible refine (heap_Push.calls k4 (fun k_ => k_ < w.heap.size) _ _ l0 a2_0 a2_1 a2_2 t271 t274 _ ?side1 A50.out).mono ?_); (case side1 => exact Kd.V_mk HC0.out (Kd.F_below (Kd.C_F k25_heap HR0.out) (by repeat (first | (with_reducible first | exact HB.out | apply below_alloc | apply pw_below_drewN | apply below_drew1 | refine below_set ?_ GE256.out) | exact HB.out)))); rintro e w81 ⟨v272, rfl, ho0, hb⟩; refine ⟨_, rfl, ?_⟩; have n0_ := Aside0.mk (Kd.V_lower (Kd.V_mono (ok' := fun k_ => k_ ≠ gb256) ho0 (fun k_ hk_ => Or.elim hk_ (fun hs_ => fun e_ => Nat.not_le.2 hs_ (by rw [e_]; exact GW256.out)) (fun hn_ => (Kd.freshB (g := gb256) (o := .cells #[.string a2_0, .int .u64 a2_1, .int .u64 a2_2] 25 (0, 0)) (by (with_reducible repeat (first | refine blk_drewN ?_ _ | refine blk_drew ?_ | refine blk_alloc ?_ _)); exact BK256.out) k_ hn_)))) (below_size (by repeat (first | (with_reducible first | exact HB.out | apply below_alloc | apply pw_below_drewN | apply below_drew1 | refine below_set ?_ GE256.out) | exact HB.out)))); have n1_ := Aside0.mk (blk_below (g := gb256) (o := .cells #[.string a2_0, .int .u64 a2_1, .int .u64 a2_2] 25 (0, 0)) (by (with_reducible repeat (first | refine blk_drewN ?_ _ | refine blk_drew ?_ | refine blk_alloc ?_ _)); exact BK256.out) hb); have n2_ := Aside0.mk (below_step (by repeat (first | (with_reducible first | exact HB.out | apply below_alloc | apply pw_below_drewN | apply below_drew1 | refine below_set ?_ GE256.out) | exact HB.out)) hb); clear BK256; clear HB; have HO273 := n0_; have BK256 := n1_; have HB := n2_; clear n0_ n1_ n2_; (try clear hb); (try clear hb2); (try clear hk); (try clear hi); (try clear ho0); obtain ⟨Ao82, co82, eo82⟩ := Kd.V_slice HO273.out; subst eo82) | ((with_reducible refine gate_callee (f := 11) rfl ?_); refine goesL_ (some 76) rfl rfl Try.func11 (by kernel_rfl) rfl #[.slice Ao82 t271.length co82] rfl (by (try simp only [List.map_toArray, List.map_cons, List.map_nil]); first | done | rfl | (simp only [List.length_drop, List.length_take]; rfl)) ?_; (with_reducible refine (heap_Pop.calls k4 (fun k_ => k_ ≠ gb256) _ _ t271 t275 t276 t277 t278 t281 _ ?side1 A51.out).mono ?_); (case side1 => exact HO273.out); rintro e w83 ⟨v279, rfl, ho0, hb⟩; refine ⟨_, rfl, ?_⟩; have n0_ := Aside0.mk (Kd.V_below (by (with_reducible repeat (first | apply Kd.V_alloc | apply Kd.V_drewN | apply Kd.V_drew)); exact HO273.out) hb); have n1_ := Aside0.mk (Kd.V_lower (Kd.V_mono (ok' := fun k_ => k_ ≠ gb256) ho0 (fun k_ hk_ => Or.elim hk_ (fun hs_ => hs_) (fun hn_ => (Kd.freshB (g := gb256) (o := .cells #[.string a2_0, .int .u64 a2_1, .int .u64 a2_2] 25 (0, 0)) (by (with_reducible repeat (first | refine blk_drewN ?_ _ | refine blk_drew ?_ | refine blk_alloc ?_ _)); exact BK256.out) k_ hn_)))) (below_size (by repeat (first | (with_reducible first | exact HB.out | apply below_alloc | apply pw_below_drewN | apply below_drew1 | refine below_set ?_ GE256.out) | exact HB.out)))); have n2_ := Aside0.mk (blk_below (g := gb256) (o := .cells #[.string a2_0, .int .u64 a2_1, .int .u64 a2_2] 25 (0, 0)) (by (with_reducible repeat (first | refine blk_drewN ?_ _ | refine blk_drew ?_ | refine blk_alloc ?_ _)); exact BK256.out) hb); have n3_ := Aside0.mk (below_step (by repeat (first | (with_reducible first | exact HB.out | apply below_alloc | apply pw_below_drewN | apply below_drew1 | refine below_set ?_ GE256.out) | exact HB.out)) hb); clear HO273; clear BK256; clear HB; have HO273 := n0_; have HO280 := n1_; have BK256 := n2_; have HB := n3_; clear n0_ n1_ n2_ n3_; (try clear hb); (try clear hb2); (try clear hk); (try clear hi); (try clear ho0)) | ((with_reducible refine gate_dst (N := 13) rfl ?_); (try (refine gate_guard (by rfl) ?_; dsimp only)); refine box_event ?hg (N := 13) ?hd (cs := #[.string (⟨#[]⟩ : ByteArray), .int .u64 0, .int .u64 0]) (t := 25) ?hr ?_; (case hd => rfl); (case hg => rfl); (case hr => first | (go_simp; done) | (go_simp; rfl)); intro gb282 hg w84 hbox hb; have n0_ := Aside0.mk (Kd.V_below (Kd.V_elderB (by (with_reducible repeat (first | apply Kd.V_alloc | apply Kd.V_drewN | apply Kd.V_drew)); exact HO273.out) gb282 (Nat.le_of_eq hg.symm)) hb); have n1_ := Aside0.mk (Kd.V_below (Kd.V_elderB (by (with_reducible repeat (first | apply Kd.V_alloc | apply Kd.V_drewN | apply Kd.V_drew)); exact HO280.out) gb282 (Nat.le_of_eq hg.symm)) hb); have n2_ := Aside0.mk (blk_below (g := gb256) (o := .cells #[.string a2_0, .int .u64 a2_1, .int .u64 a2_2] 25 (0, 0)) (by (with_reducible repeat (first | refine blk_drewN ?_ _ | refine blk_drew ?_ | refine blk_alloc ?_ _)); exact BK256.out) hb); have n3_ := Aside0.mk (below_step (by repeat (first | (with_reducible first | exact HB.out | apply below_alloc | apply pw_below_drewN | apply below_drew1 | refine below_set ?_ GE256.out) | exact HB.out)) hb); have n4_ := Aside0.mk (hbox); have n5_ := Aside0.mk ((by rw [hg]; exact (below_size (by repeat (first | (with_reducible first | exact HB.out | apply below_alloc | apply pw_below_drewN | apply below_drew1 | refine below_set ?_ GE256.out) | exact HB.out))) : w.heap.size ≤ gb282)); have n6_ := Aside0.mk ((by rw [hg]; exact (below_size (by repeat (first | (with_reducible first | exact HB.out | apply below_alloc | apply pw_below_drewN | apply below_drew1 | refine below_set ?_ GE256.out) | exact HB.out))) : w.heap.size ≤ gb282)); have n7_ := Aside0.mk ((by rw [hg]; exact Nat.ne_of_lt (blk_lt (g := gb256) (o := .cells #[.string a2_0, .int .u64 a2_1, .int .u64 a2_2] 25 (0, 0)) (by (with_reducible repeat (first | refine blk_drewN ?_ _ | refine blk_drew ?_ | refine blk_alloc ?_ _)); exact BK256.out)) : gb256 ≠ gb282)); have n8_ := Aside0.mk ((by rw [hg]; exact Nat.ne_of_gt (blk_lt (g := gb256) (o := .cells #[.string a2_0, .int .u64 a2_1, .int .u64 a2_2] 25 (0, 0)) (by (with_reducible repeat (first | refine blk_drewN ?_ _ | refine blk_drew ?_ | refine blk_alloc ?_ _)); exact BK256.out)) : gb282 ≠ gb256)); clear HO273; clear HO280; clear BK256; clear HB; have HO273 := n0_; have HO280 := n1_; have BK256 := n2_; have HB := n3_; have BK282 := n4_; have GW282 := n5_; have GE282 := n6_; have NB256_282 := n7_; have NB282_256 := n8_; clear n0_ n1_ n2_ n3_ n4_ n5_ n6_ n7_ n8_; clear hb hbox hg; have hnb85 := NB282_256.out; have hnc85 := NB256_282.out; have hcz86_0 : w84.cell? ⟨gb282, 0, none⟩ = some (.string (⟨#[]⟩ : ByteArray)) := (blk_cell BK282.out 0).trans rfl; have hcz86_1 : w84.cell? ⟨gb282, 1, none⟩ = some (.int .u64 0) := (blk_cell BK282.out 1).trans rfl; have hcz86_2 : w84.cell? ⟨gb282, 2, none⟩ = some (.int .u64 0) := (blk_cell BK282.out 2).trans rfl; have hfz86_0 := blk_frozen BK282.out 0; have hfz86_1 := blk_frozen BK282.out 1; have hfz86_2 := blk_frozen BK282.out 2; have hcz87_0 : w84.cell? ⟨gb256, 0, none⟩ = some (.string a2_0) := (blk_cell BK256.out 0).trans rfl; have hcz87_1 : w84.cell? ⟨gb256, 1, none⟩ = some (.int .u64 a2_1) := (blk_cell BK256.out 1).trans rfl; have hcz87_2 : w84.cell? ⟨gb256, 2, none⟩ = some (.int .u64 a2_2) := (blk_cell BK256.out 2).trans rfl; have hfz87_0 := blk_frozen BK256.out 0; have hfz87_1 := blk_frozen BK256.out 1; have hfz87_2 := blk_frozen BK256.out 2; obtain ⟨Ao88, co88, eo88⟩ := Kd.V_slice HO280.out; subst eo88))
               go_ret
               exact ⟨by first | rfl | (simp [errW_none, errW_some] <;> rfl) | (simp [*, errW_none, errW_some] <;> rfl), by repeat (first | (with_reducible first | exact HB.out | apply below_alloc | apply pw_below_drewN | apply below_drew1 | refine below_set ?_ GE256.out | refine below_set ?_ GE282.out) | exact HB.out)⟩
             ·
              rw [if_neg c54] at H
              have c54b0 : (t275.toList == a2_0.toList && (t276 == a2_1 && (t277 == a2_2))) = false := by simpa using c54
              (try (have c54b1 : decide (t275.toList = a2_0.toList && (t276 == a2_1 && (t277 == a2_2))) = false := by simpa using c54))
              (try (have c54b2 : (t275.toList == a2_0.toList && (t276 == a2_1 && (t277 == a2_2))) = false := by simpa using c54))
              (try (have c54b3 : ¬ (t275.toList = a2_0.toList && (t276 == a2_1 && (t277 == a2_2))) := by simpa using c54))
              clear c54
              obtain rfl := Option.some.inj H
              have hcz89_0 : wr.cell? ⟨gb256, 0, none⟩ = some (.string a2_0) := (blk_cell BK256.out 0).trans rfl
              have hcz89_1 : wr.cell? ⟨gb256, 1, none⟩ = some (.int .u64 a2_1) := (blk_cell BK256.out 1).trans rfl
              have hcz89_2 : wr.cell? ⟨gb256, 2, none⟩ = some (.int .u64 a2_2) := (blk_cell BK256.out 2).trans rfl
              have hfz89_0 := blk_frozen BK256.out 0
              have hfz89_1 := blk_frozen BK256.out 1
              have hfz89_2 := blk_frozen BK256.out 2
              go_wp2_with (first | ((with_reducible refine gate_callee (f := 10) rfl ?_); refine goesL_ (some 71) rfl rfl Try.func10 (by kernel_rfl) rfl #[.slice A0 l0.length c0, .agg #[.string a2_0, .int .u64 a2_1, .int .u64 a2_2]] rfl (by (try simp only [List.map_toArray, List.map_cons, List.map_nil]); first | done | rfl | (simp only [List.length_drop, List.length_take]; rfl)) ?_; (with_reducible refine (heap_Push.calls k4 (fun k_ => k_ < w.heap.size) _ _ l0 a2_0 a2_1 a2_2 t271 t274 _ ?side1 A50.out).mono ?_); (case side1 => exact Kd.V_mk HC0.out (Kd.F_below (Kd.C_F k25_heap HR0.out) (by repeat (first | (with_reducible first | exact HB.out | apply below_alloc | apply pw_below_drewN | apply below_drew1 | refine below_set ?_ GE256.out) | exact HB.out)))); rintro e w90 ⟨v272, rfl, ho0, hb⟩; refine ⟨_, rfl, ?_⟩; have n0_ := Aside0.mk (Kd.V_lower (Kd.V_mono (ok' := fun k_ => k_ ≠ gb256) ho0 (fun k_ hk_ => Or.elim hk_ (fun hs_ => fun e_ => Nat.not_le.2 hs_ (by rw [e_]; exact GW256.out)) (fun hn_ => (Kd.freshB (g := gb256) (o := .cells #[.string a2_0, .int .u64 a2_1, .int .u64 a2_2] 25 (0, 0)) (by (with_reducible repeat (first | refine blk_drewN ?_ _ | refine blk_drew ?_ | refine blk_alloc ?_ _)); exact BK256.out) k_ hn_)))) (below_size (by repeat (first | (with_reducible first | exact HB.out | apply below_alloc | apply pw_below_drewN | apply below_drew1 | refine below_set ?_ GE256.out) | exact HB.out)))); have n1_ := Aside0.mk (blk_below (g := gb256) (o := .cells #[.string a2_0, .int .u64 a2_1, .int .u64 a2_2] 25 (0, 0)) (by (with_reducible repeat (first | refine blk_drewN ?_ _ | refine blk_drew ?_ | refine blk_alloc ?_ _)); exact BK256.out) hb); have n2_ := Aside0.mk (below_step (by repeat (first | (with_reducible first | exact HB.out | apply below_alloc | apply pw_below_drewN | apply below_drew1 | refine below_set ?_ GE256.out) | exact HB.out)) hb); clear BK256; clear HB; have HO273 := n0_; have BK256 := n1_; have HB := n2_; clear n0_ n1_ n2_; (try clear hb); (try clear hb2); (try clear hk); (try clear hi); (try clear ho0); obtain ⟨Ao91, co91, eo91⟩ := Kd.V_slice HO273.out; subst eo91) | ((with_reducible refine gate_callee (f := 11) rfl ?_); refine goesL_ (some 76) rfl rfl Try.func11 (by kernel_rfl) rfl #[.slice Ao91 t271.length co91] rfl (by (try simp only [List.map_toArray, List.map_cons, List.map_nil]); first | done | rfl | (simp only [List.length_drop, List.length_take]; rfl)) ?_; (with_reducible refine (heap_Pop.calls k4 (fun k_ => k_ ≠ gb256) _ _ t271 t275 t276 t277 t278 t281 _ ?side1 A51.out).mono ?_); (case side1 => exact HO273.out); rintro e w92 ⟨v279, rfl, ho0, hb⟩; refine ⟨_, rfl, ?_⟩; have n0_ := Aside0.mk (Kd.V_below (by (with_reducible repeat (first | apply Kd.V_alloc | apply Kd.V_drewN | apply Kd.V_drew)); exact HO273.out) hb); have n1_ := Aside0.mk (Kd.V_lower (Kd.V_mono (ok' := fun k_ => k_ ≠ gb256) ho0 (fun k_ hk_ => Or.elim hk_ (fun hs_ => hs_) (fun hn_ => (Kd.freshB (g := gb256) (o := .cells #[.string a2_0, .int .u64 a2_1, .int .u64 a2_2] 25 (0, 0)) (by (with_reducible repeat (first | refine blk_drewN ?_ _ | refine blk_drew ?_ | refine blk_alloc ?_ _)); exact BK256.out) k_ hn_)))) (below_size (by repeat (first | (with_reducible first | exact HB.out | apply below_alloc | apply pw_below_drewN | apply below_drew1 | refine below_set ?_ GE256.out) | exact HB.out)))); have n2_ := Aside0.mk (blk_below (g := gb256) (o := .cells #[.string a2_0, .int .u64 a2_1, .int .u64 a2_2] 25 (0, 0)) (by (with_reducible repeat (first | refine blk_drewN ?_ _ | refine blk_drew ?_ | refine blk_alloc ?_ _)); exact BK256.out) hb); have n3_ := Aside0.mk (below_step (by repeat (first | (with_reducible first | exact HB.out | apply below_alloc | apply pw_below_drewN | apply below_drew1 | refine below_set ?_ GE256.out) | exact HB.out)) hb); clear HO273; clear BK256; clear HB; have HO273 := n0_; have HO280 := n1_; have BK256 := n2_; have HB := n3_; clear n0_ n1_ n2_ n3_; (try clear hb); (try clear hb2); (try clear hk); (try clear hi); (try clear ho0)) | ((with_reducible refine gate_dst (N := 13) rfl ?_); (try (refine gate_guard (by rfl) ?_; dsimp only)); refine box_event ?hg (N := 13) ?hd (cs := #[.string (⟨#[]⟩ : ByteArray), .int .u64 0, .int .u64 0]) (t := 25) ?hr ?_; (case hd => rfl); (case hg => rfl); (case hr => first | (go_simp; done) | (go_simp; rfl)); intro gb282 hg w93 hbox hb; have n0_ := Aside0.mk (Kd.V_below (Kd.V_elderB (by (with_reducible repeat (first | apply Kd.V_alloc | apply Kd.V_drewN | apply Kd.V_drew)); exact HO273.out) gb282 (Nat.le_of_eq hg.symm)) hb); have n1_ := Aside0.mk (Kd.V_below (Kd.V_elderB (by (with_reducible repeat (first | apply Kd.V_alloc | apply Kd.V_drewN | apply Kd.V_drew)); exact HO280.out) gb282 (Nat.le_of_eq hg.symm)) hb); have n2_ := Aside0.mk (blk_below (g := gb256) (o := .cells #[.string a2_0, .int .u64 a2_1, .int .u64 a2_2] 25 (0, 0)) (by (with_reducible repeat (first | refine blk_drewN ?_ _ | refine blk_drew ?_ | refine blk_alloc ?_ _)); exact BK256.out) hb); have n3_ := Aside0.mk (below_step (by repeat (first | (with_reducible first | exact HB.out | apply below_alloc | apply pw_below_drewN | apply below_drew1 | refine below_set ?_ GE256.out) | exact HB.out)) hb); have n4_ := Aside0.mk (hbox); have n5_ := Aside0.mk ((by rw [hg]; exact (below_size (by repeat (first | (with_reducible first | exact HB.out | apply below_alloc | apply pw_below_drewN | apply below_drew1 | refine below_set ?_ GE256.out) | exact HB.out))) : w.heap.size ≤ gb282)); have n6_ := Aside0.mk ((by rw [hg]; exact (below_size (by repeat (first | (with_reducible first | exact HB.out | apply below_alloc | apply pw_below_drewN | apply below_drew1 | refine below_set ?_ GE256.out) | exact HB.out))) : w.heap.size ≤ gb282)); have n7_ := Aside0.mk ((by rw [hg]; exact Nat.ne_of_lt (blk_lt (g := gb256) (o := .cells #[.string a2_0, .int .u64 a2_1, .int .u64 a2_2] 25 (0, 0)) (by (with_reducible repeat (first | refine blk_drewN ?_ _ | refine blk_drew ?_ | refine blk_alloc ?_ _)); exact BK256.out)) : gb256 ≠ gb282)); have n8_ := Aside0.mk ((by rw [hg]; exact Nat.ne_of_gt (blk_lt (g := gb256) (o := .cells #[.string a2_0, .int .u64 a2_1, .int .u64 a2_2] 25 (0, 0)) (by (with_reducible repeat (first | refine blk_drewN ?_ _ | refine blk_drew ?_ | refine blk_alloc ?_ _)); exact BK256.out)) : gb282 ≠ gb256)); clear HO273; clear HO280; clear BK256; clear HB; have HO273 := n0_; have HO280 := n1_; have BK256 := n2_; have HB := n3_; have BK282 := n4_; have GW282 := n5_; have GE282 := n6_; have NB256_282 := n7_; have NB282_256 := n8_; clear n0_ n1_ n2_ n3_ n4_ n5_ n6_ n7_ n8_; clear hb hbox hg; have hnb94 := NB282_256.out; have hnc94 := NB256_282.out; have hcz95_0 : w93.cell? ⟨gb282, 0, none⟩ = some (.string (⟨#[]⟩ : ByteArray)) := (blk_cell BK282.out 0).trans rfl; have hcz95_1 : w93.cell? ⟨gb282, 1, none⟩ = some (.int .u64 0) := (blk_cell BK282.out 1).trans rfl; have hcz95_2 : w93.cell? ⟨gb282, 2, none⟩ = some (.int .u64 0) := (blk_cell BK282.out 2).trans rfl; have hfz95_0 := blk_frozen BK282.out 0; have hfz95_1 := blk_frozen BK282.out 1; have hfz95_2 := blk_frozen BK282.out 2; have hcz96_0 : w93.cell? ⟨gb256, 0, none⟩ = some (.string a2_0) := (blk_cell BK256.out 0).trans rfl; have hcz96_1 : w93.cell? ⟨gb256, 1, none⟩ = some (.int .u64 a2_1) := (blk_cell BK256.out 1).trans rfl; have hcz96_2 : w93.cell? ⟨gb256, 2, none⟩ = some (.int .u64 a2_2) := (blk_cell BK256.out 2).trans rfl; have hfz96_0 := blk_frozen BK256.out 0; have hfz96_1 := blk_frozen BK256.out 1; have hfz96_2 := blk_frozen BK256.out 2))
              go_ret
              exact ⟨by first | rfl | (simp [errW_none, errW_some] <;> rfl) | (simp [*, errW_none, errW_some] <;> rfl), by repeat (first | (with_reducible first | exact HB.out | apply below_alloc | apply pw_below_drewN | apply below_drew1 | refine below_set ?_ GE256.out | refine below_set ?_ GE282.out) | exact HB.out)⟩
            ·
             rw [if_neg c53] at H
             have c53b0 : (t281 == 0) = false := beq_eq_false_iff_ne.mpr c53
             have c53b1 : (t281 != 0) = true := bne_iff_ne.mpr c53
             obtain rfl := Option.some.inj H
             have hcz97_0 : wr.cell? ⟨gb256, 0, none⟩ = some (.string a2_0) := (blk_cell BK256.out 0).trans rfl
             have hcz97_1 : wr.cell? ⟨gb256, 1, none⟩ = some (.int .u64 a2_1) := (blk_cell BK256.out 1).trans rfl
             have hcz97_2 : wr.cell? ⟨gb256, 2, none⟩ = some (.int .u64 a2_2) := (blk_cell BK256.out 2).trans rfl
             have hfz97_0 := blk_frozen BK256.out 0
             have hfz97_1 := blk_frozen BK256.out 1
             have hfz97_2 := blk_frozen BK256.out 2
             go_wp2_with (first | ((with_reducible refine gate_callee (f := 10) rfl ?_); refine goesL_ (some 71) rfl rfl Try.func10 (by kernel_rfl) rfl #[.slice A0 l0.length c0, .agg #[.string a2_0, .int .u64 a2_1, .int .u64 a2_2]] rfl (by (try simp only [List.map_toArray, List.map_cons, List.map_nil]); first | done | rfl | (simp only [List.length_drop, List.length_take]; rfl)) ?_; (with_reducible refine (heap_Push.calls k4 (fun k_ => k_ < w.heap.size) _ _ l0 a2_0 a2_1 a2_2 t271 t274 _ ?side1 A50.out).mono ?_); (case side1 => exact Kd.V_mk HC0.out (Kd.F_below (Kd.C_F k25_heap HR0.out) (by repeat (first | (with_reducible first | exact HB.out | apply below_alloc | apply pw_below_drewN | apply below_drew1 | refine below_set ?_ GE256.out) | exact HB.out)))); rintro e w98 ⟨v272, rfl, ho0, hb⟩; refine ⟨_, rfl, ?_⟩; have n0_ := Aside0.mk (Kd.V_lower (Kd.V_mono (ok' := fun k_ => k_ ≠ gb256) ho0 (fun k_ hk_ => Or.elim hk_ (fun hs_ => fun e_ => Nat.not_le.2 hs_ (by rw [e_]; exact GW256.out)) (fun hn_ => (Kd.freshB (g := gb256) (o := .cells #[.string a2_0, .int .u64 a2_1, .int .u64 a2_2] 25 (0, 0)) (by (with_reducible repeat (first | refine blk_drewN ?_ _ | refine blk_drew ?_ | refine blk_alloc ?_ _)); exact BK256.out) k_ hn_)))) (below_size (by repeat (first | (with_reducible first | exact HB.out | apply below_alloc | apply pw_below_drewN | apply below_drew1 | refine below_set ?_ GE256.out) | exact HB.out)))); have n1_ := Aside0.mk (blk_below (g := gb256) (o := .cells #[.string a2_0, .int .u64 a2_1, .int .u64 a2_2] 25 (0, 0)) (by (with_reducible repeat (first | refine blk_drewN ?_ _ | refine blk_drew ?_ | refine blk_alloc ?_ _)); exact BK256.out) hb); have n2_ := Aside0.mk (below_step (by repeat (first | (with_reducible first | exact HB.out | apply below_alloc | apply pw_below_drewN | apply below_drew1 | refine below_set ?_ GE256.out) | exact HB.out)) hb); clear BK256; clear HB; have HO273 := n0_; have BK256 := n1_; have HB := n2_; clear n0_ n1_ n2_; (try clear hb); (try clear hb2); (try clear hk); (try clear hi); (try clear ho0); obtain ⟨Ao99, co99, eo99⟩ := Kd.V_slice HO273.out; subst eo99) | ((with_reducible refine gate_callee (f := 11) rfl ?_); refine goesL_ (some 76) rfl rfl Try.func11 (by kernel_rfl) rfl #[.slice Ao99 t271.length co99] rfl (by (try simp only [List.map_toArray, List.map_cons, List.map_nil]); first | done | rfl | (simp only [List.length_drop, List.length_take]; rfl)) ?_; (with_reducible refine (heap_Pop.calls k4 (fun k_ => k_ ≠ gb256) _ _ t271 t275 t276 t277 t278 t281 _ ?side1 A51.out).mono ?_); (case side1 => exact HO273.out); rintro e w100 ⟨v279, rfl, ho0, hb⟩; refine ⟨_, rfl, ?_⟩; have n0_ := Aside0.mk (Kd.V_below (by (with_reducible repeat (first | apply Kd.V_alloc | apply Kd.V_drewN | apply Kd.V_drew)); exact HO273.out) hb); have n1_ := Aside0.mk (Kd.V_lower (Kd.V_mono (ok' := fun k_ => k_ ≠ gb256) ho0 (fun k_ hk_ => Or.elim hk_ (fun hs_ => hs_) (fun hn_ => (Kd.freshB (g := gb256) (o := .cells #[.string a2_0, .int .u64 a2_1, .int .u64 a2_2] 25 (0, 0)) (by (with_reducible repeat (first | refine blk_drewN ?_ _ | refine blk_drew ?_ | refine blk_alloc ?_ _)); exact BK256.out) k_ hn_)))) (below_size (by repeat (first | (with_reducible first | exact HB.out | apply below_alloc | apply pw_below_drewN | apply below_drew1 | refine below_set ?_ GE256.out) | exact HB.out)))); have n2_ := Aside0.mk (blk_below (g := gb256) (o := .cells #[.string a2_0, .int .u64 a2_1, .int .u64 a2_2] 25 (0, 0)) (by (with_reducible repeat (first | refine blk_drewN ?_ _ | refine blk_drew ?_ | refine blk_alloc ?_ _)); exact BK256.out) hb); have n3_ := Aside0.mk (below_step (by repeat (first | (with_reducible first | exact HB.out | apply below_alloc | apply pw_below_drewN | apply below_drew1 | refine below_set ?_ GE256.out) | exact HB.out)) hb); clear HO273; clear BK256; clear HB; have HO273 := n0_; have HO280 := n1_; have BK256 := n2_; have HB := n3_; clear n0_ n1_ n2_ n3_; (try clear hb); (try clear hb2); (try clear hk); (try clear hi); (try clear ho0)) | ((with_reducible refine gate_dst (N := 13) rfl ?_); (try (refine gate_guard (by rfl) ?_; dsimp only)); refine box_event ?hg (N := 13) ?hd (cs := #[.string (⟨#[]⟩ : ByteArray), .int .u64 0, .int .u64 0]) (t := 25) ?hr ?_; (case hd => rfl); (case hg => rfl); (case hr => first | (go_simp; done) | (go_simp; rfl)); intro gb282 hg w101 hbox hb; have n0_ := Aside0.mk (Kd.V_below (Kd.V_elderB (by (with_reducible repeat (first | apply Kd.V_alloc | apply Kd.V_drewN | apply Kd.V_drew)); exact HO273.out) gb282 (Nat.le_of_eq hg.symm)) hb); have n1_ := Aside0.mk (Kd.V_below (Kd.V_elderB (by (with_reducible repeat (first | apply Kd.V_alloc | apply Kd.V_drewN | apply Kd.V_drew)); exact HO280.out) gb282 (Nat.le_of_eq hg.symm)) hb); have n2_ := Aside0.mk (blk_below (g := gb256) (o := .cells #[.string a2_0, .int .u64 a2_1, .int .u64 a2_2] 25 (0, 0)) (by (with_reducible repeat (first | refine blk_drewN ?_ _ | refine blk_drew ?_ | refine blk_alloc ?_ _)); exact BK256.out) hb); have n3_ := Aside0.mk (below_step (by repeat (first | (with_reducible first | exact HB.out | apply below_alloc | apply pw_below_drewN | apply below_drew1 | refine below_set ?_ GE256.out) | exact HB.out)) hb); have n4_ := Aside0.mk (hbox); have n5_ := Aside0.mk ((by rw [hg]; exact (below_size (by repeat (first | (with_reducible first | exact HB.out | apply below_alloc | apply pw_below_drewN | apply below_drew1 | refine below_set ?_ GE256.out) | exact HB.out))) : w.heap.size ≤ gb282)); have n6_ := Aside0.mk ((by rw [hg]; exact (below_size (by repeat (first | (with_reducible first | exact HB.out | apply below_alloc | apply pw_below_drewN | apply below_drew1 | refine below_set ?_ GE256.out) | exact HB.out))) : w.heap.size ≤ gb282)); have n7_ := Aside0.mk ((by rw [hg]; exact Nat.ne_of_lt (blk_lt (g := gb256) (o := .cells #[.string a2_0, .int .u64 a2_1, .int .u64 a2_2] 25 (0, 0)) (by (with_reducible repeat (first | refine blk_drewN ?_ _ | refine blk_drew ?_ | refine blk_alloc ?_ _)); exact BK256.out)) : gb256 ≠ gb282)); have n8_ := Aside0.mk ((by rw [hg]; exact Nat.ne_of_gt (blk_lt (g := gb256) (o := .cells #[.string a2_0, .int .u64 a2_1, .int .u64 a2_2] 25 (0, 0)) (by (with_reducible repeat (first | refine blk_drewN ?_ _ | refine blk_drew ?_ | refine blk_alloc ?_ _)); exact BK256.out)) : gb282 ≠ gb256)); clear HO273; clear HO280; clear BK256; clear HB; have HO273 := n0_; have HO280 := n1_; have BK256 := n2_; have HB := n3_; have BK282 := n4_; have GW282 := n5_; have GE282 := n6_; have NB256_282 := n7_; have NB282_256 := n8_; clear n0_ n1_ n2_ n3_ n4_ n5_ n6_ n7_ n8_; clear hb hbox hg; have hnb102 := NB282_256.out; have hnc102 := NB256_282.out; have hcz103_0 : w101.cell? ⟨gb282, 0, none⟩ = some (.string (⟨#[]⟩ : ByteArray)) := (blk_cell BK282.out 0).trans rfl; have hcz103_1 : w101.cell? ⟨gb282, 1, none⟩ = some (.int .u64 0) := (blk_cell BK282.out 1).trans rfl; have hcz103_2 : w101.cell? ⟨gb282, 2, none⟩ = some (.int .u64 0) := (blk_cell BK282.out 2).trans rfl; have hfz103_0 := blk_frozen BK282.out 0; have hfz103_1 := blk_frozen BK282.out 1; have hfz103_2 := blk_frozen BK282.out 2))
             go_ret
             exact ⟨by first | rfl | (simp [errW_none, errW_some] <;> rfl) | (simp [*, errW_none, errW_some] <;> rfl), by repeat (first | (with_reducible first | exact HB.out | apply below_alloc | apply pw_below_drewN | apply below_drew1 | refine below_set ?_ GE256.out | refine below_set ?_ GE282.out) | exact HB.out)⟩
           ·
            rw [if_neg c52] at H
            have c52b0 : (t274 == 0) = false := beq_eq_false_iff_ne.mpr c52
            have c52b1 : (t274 != 0) = true := bne_iff_ne.mpr c52
            obtain rfl := Option.some.inj H
            have hcz104_0 : wr.cell? ⟨gb256, 0, none⟩ = some (.string a2_0) := (blk_cell BK256.out 0).trans rfl
            have hcz104_1 : wr.cell? ⟨gb256, 1, none⟩ = some (.int .u64 a2_1) := (blk_cell BK256.out 1).trans rfl
            have hcz104_2 : wr.cell? ⟨gb256, 2, none⟩ = some (.int .u64 a2_2) := (blk_cell BK256.out 2).trans rfl
            have hfz104_0 := blk_frozen BK256.out 0
            have hfz104_1 := blk_frozen BK256.out 1
            have hfz104_2 := blk_frozen BK256.out 2
            go_wp2_with (first | ((with_reducible refine gate_callee (f := 10) rfl ?_); refine goesL_ (some 71) rfl rfl Try.func10 (by kernel_rfl) rfl #[.slice A0 l0.length c0, .agg #[.string a2_0, .int .u64 a2_1, .int .u64 a2_2]] rfl (by (try simp only [List.map_toArray, List.map_cons, List.map_nil]); first | done | rfl | (simp only [List.length_drop, List.length_take]; rfl)) ?_; (with_reducible refine (heap_Push.calls k4 (fun k_ => k_ < w.heap.size) _ _ l0 a2_0 a2_1 a2_2 t271 t274 _ ?side1 A50.out).mono ?_); (case side1 => exact Kd.V_mk HC0.out (Kd.F_below (Kd.C_F k25_heap HR0.out) (by repeat (first | (with_reducible first | exact HB.out | apply below_alloc | apply pw_below_drewN | apply below_drew1 | refine below_set ?_ GE256.out) | exact HB.out)))); rintro e w105 ⟨v272, rfl, ho0, hb⟩; refine ⟨_, rfl, ?_⟩; have n0_ := Aside0.mk (Kd.V_lower (Kd.V_mono (ok' := fun k_ => k_ ≠ gb256) ho0 (fun k_ hk_ => Or.elim hk_ (fun hs_ => fun e_ => Nat.not_le.2 hs_ (by rw [e_]; exact GW256.out)) (fun hn_ => (Kd.freshB (g := gb256) (o := .cells #[.string a2_0, .int .u64 a2_1, .int .u64 a2_2] 25 (0, 0)) (by (with_reducible repeat (first | refine blk_drewN ?_ _ | refine blk_drew ?_ | refine blk_alloc ?_ _)); exact BK256.out) k_ hn_)))) (below_size (by repeat (first | (with_reducible first | exact HB.out | apply below_alloc | apply pw_below_drewN | apply below_drew1 | refine below_set ?_ GE256.out) | exact HB.out)))); have n1_ := Aside0.mk (blk_below (g := gb256) (o := .cells #[.string a2_0, .int .u64 a2_1, .int .u64 a2_2] 25 (0, 0)) (by (with_reducible repeat (first | refine blk_drewN ?_ _ | refine blk_drew ?_ | refine blk_alloc ?_ _)); exact BK256.out) hb); have n2_ := Aside0.mk (below_step (by repeat (first | (with_reducible first | exact HB.out | apply below_alloc | apply pw_below_drewN | apply below_drew1 | refine below_set ?_ GE256.out) | exact HB.out)) hb); clear BK256; clear HB; have HO273 := n0_; have BK256 := n1_; have HB := n2_; clear n0_ n1_ n2_; (try clear hb); (try clear hb2); (try clear hk); (try clear hi); (try clear ho0); obtain ⟨Ao106, co106, eo106⟩ := Kd.V_slice HO273.out; subst eo106) | ((with_reducible refine gate_callee (f := 11) rfl ?_); refine goesL_ (some 76) rfl rfl Try.func11 (by kernel_rfl) rfl #[.slice Ao106 t271.length co106] rfl (by (try simp only [List.map_toArray, List.map_cons, List.map_nil]); first | done | rfl | (simp only [List.length_drop, List.length_take]; rfl)) ?_; (with_reducible refine (heap_Pop.calls k4 (fun k_ => k_ ≠ gb256) _ _ t271 t275 t276 t277 t278 t281 _ ?side1 A51.out).mono ?_); (case side1 => exact HO273.out); rintro e w107 ⟨v279, rfl, ho0, hb⟩; refine ⟨_, rfl, ?_⟩; have n0_ := Aside0.mk (Kd.V_below (by (with_reducible repeat (first | apply Kd.V_alloc | apply Kd.V_drewN | apply Kd.V_drew)); exact HO273.out) hb); have n1_ := Aside0.mk (Kd.V_lower (Kd.V_mono (ok' := fun k_ => k_ ≠ gb256) ho0 (fun k_ hk_ => Or.elim hk_ (fun hs_ => hs_) (fun hn_ => (Kd.freshB (g := gb256) (o := .cells #[.string a2_0, .int .u64 a2_1, .int .u64 a2_2] 25 (0, 0)) (by (with_reducible repeat (first | refine blk_drewN ?_ _ | refine blk_drew ?_ | refine blk_alloc ?_ _)); exact BK256.out) k_ hn_)))) (below_size (by repeat (first | (with_reducible first | exact HB.out | apply below_alloc | apply pw_below_drewN | apply below_drew1 | refine below_set ?_ GE256.out) | exact HB.out)))); have n2_ := Aside0.mk (blk_below (g := gb256) (o := .cells #[.string a2_0, .int .u64 a2_1, .int .u64 a2_2] 25 (0, 0)) (by (with_reducible repeat (first | refine blk_drewN ?_ _ | refine blk_drew ?_ | refine blk_alloc ?_ _)); exact BK256.out) hb); have n3_ := Aside0.mk (below_step (by repeat (first | (with_reducible first | exact HB.out | apply below_alloc | apply pw_below_drewN | apply below_drew1 | refine below_set ?_ GE256.out) | exact HB.out)) hb); clear HO273; clear BK256; clear HB; have HO273 := n0_; have HO280 := n1_; have BK256 := n2_; have HB := n3_; clear n0_ n1_ n2_ n3_; (try clear hb); (try clear hb2); (try clear hk); (try clear hi); (try clear ho0)) | ((with_reducible refine gate_dst (N := 13) rfl ?_); (try (refine gate_guard (by rfl) ?_; dsimp only)); refine box_event ?hg (N := 13) ?hd (cs := #[.string (⟨#[]⟩ : ByteArray), .int .u64 0, .int .u64 0]) (t := 25) ?hr ?_; (case hd => rfl); (case hg => rfl); (case hr => first | (go_simp; done) | (go_simp; rfl)); intro gb282 hg w108 hbox hb; have n0_ := Aside0.mk (Kd.V_below (Kd.V_elderB (by (with_reducible repeat (first | apply Kd.V_alloc | apply Kd.V_drewN | apply Kd.V_drew)); exact HO273.out) gb282 (Nat.le_of_eq hg.symm)) hb); have n1_ := Aside0.mk (Kd.V_below (Kd.V_elderB (by (with_reducible repeat (first | apply Kd.V_alloc | apply Kd.V_drewN | apply Kd.V_drew)); exact HO280.out) gb282 (Nat.le_of_eq hg.symm)) hb); have n2_ := Aside0.mk (blk_below (g := gb256) (o := .cells #[.string a2_0, .int .u64 a2_1, .int .u64 a2_2] 25 (0, 0)) (by (with_reducible repeat (first | refine blk_drewN ?_ _ | refine blk_drew ?_ | refine blk_alloc ?_ _)); exact BK256.out) hb); have n3_ := Aside0.mk (below_step (by repeat (first | (with_reducible first | exact HB.out | apply below_alloc | apply pw_below_drewN | apply below_drew1 | refine below_set ?_ GE256.out) | exact HB.out)) hb); have n4_ := Aside0.mk (hbox); have n5_ := Aside0.mk ((by rw [hg]; exact (below_size (by repeat (first | (with_reducible first | exact HB.out | apply below_alloc | apply pw_below_drewN | apply below_drew1 | refine below_set ?_ GE256.out) | exact HB.out))) : w.heap.size ≤ gb282)); have n6_ := Aside0.mk ((by rw [hg]; exact (below_size (by repeat (first | (with_reducible first | exact HB.out | apply below_alloc | apply pw_below_drewN | apply below_drew1 | refine below_set ?_ GE256.out) | exact HB.out))) : w.heap.size ≤ gb282)); have n7_ := Aside0.mk ((by rw [hg]; exact Nat.ne_of_lt (blk_lt (g := gb256) (o := .cells #[.string a2_0, .int .u64 a2_1, .int .u64 a2_2] 25 (0, 0)) (by (with_reducible repeat (first | refine blk_drewN ?_ _ | refine blk_drew ?_ | refine blk_alloc ?_ _)); exact BK256.out)) : gb256 ≠ gb282)); have n8_ := Aside0.mk ((by rw [hg]; exact Nat.ne_of_gt (blk_lt (g := gb256) (o := .cells #[.string a2_0, .int .u64 a2_1, .int .u64 a2_2] 25 (0, 0)) (by (with_reducible repeat (first | refine blk_drewN ?_ _ | refine blk_drew ?_ | refine blk_alloc ?_ _)); exact BK256.out)) : gb282 ≠ gb256)); clear HO273; clear HO280; clear BK256; clear HB; have HO273 := n0_; have HO280 := n1_; have BK256 := n2_; have HB := n3_; have BK282 := n4_; have GW282 := n5_; have GE282 := n6_; have NB256_282 := n7_; have NB282_256 := n8_; clear n0_ n1_ n2_ n3_ n4_ n5_ n6_ n7_ n8_; clear hb hbox hg; have hnb109 := NB282_256.out; have hnc109 := NB256_282.out; have hcz110_0 : w108.cell? ⟨gb282, 0, none⟩ = some (.string (⟨#[]⟩ : ByteArray)) := (blk_cell BK282.out 0).trans rfl; have hcz110_1 : w108.cell? ⟨gb282, 1, none⟩ = some (.int .u64 0) := (blk_cell BK282.out 1).trans rfl; have hcz110_2 : w108.cell? ⟨gb282, 2, none⟩ = some (.int .u64 0) := (blk_cell BK282.out 2).trans rfl; have hfz110_0 := blk_frozen BK282.out 0; have hfz110_1 := blk_frozen BK282.out 1; have hfz110_2 := blk_frozen BK282.out 2))
            go_ret
            exact ⟨by first | rfl | (simp [errW_none, errW_some] <;> rfl) | (simp [*, errW_none, errW_some] <;> rfl), by repeat (first | (with_reducible first | exact HB.out | apply below_alloc | apply pw_below_drewN | apply below_drew1 | refine below_set ?_ GE256.out | refine below_set ?_ GE282.out) | exact HB.out)⟩

end Go.Proofs.Ytobdhjnaglikaaa.Q
