/- Walks of Go functions, each against a plain function over numbers and lists; written by this session's program printx.py over the kit's print; no condition but those that each theorem states. -/
import Derived.Test.YtobdhjnaglikaaaQx0
import Derived.Test.YtobdhjnaglikaaaQx2
import Derived.Test.YtobdhjnaglikaaaQx5
import Derived.Test.YtobdhjnaglikaaaQx7
import Derived.Test.YtobdhjnaglikaaaQx8
import Derived.Test.YtobdhjnaglikaaaQx12
namespace Go.Proofs.Ytobdhjnaglikaaa.Q
open Go.RowKit Go.Proofs.YtobdhjnaglikaaaW.PrintWords Go.Proofs.YtobdhjnaglikaaaW.PrintLast Go.Proofs.YtobdhjnaglikaaaW.PrintMore
attribute [local go_sem] max2_int min2_int max_two min_two max_three min_three max_four min_four   -- for this text's walks alone
set_option linter.unusedVariables false
set_option linter.unusedSimpArgs false

/-! ### samphirelaw11_HeapDown: function 5 -/
mutual
def samphirelaw11_HeapDown.j0 : Nat → List (S25) → Bool → Option (Bool)
 | 0, _, _ => none
 | k + 1, x0, x20 => if x20 = true then ((samphirelaw11_awake.f k).bind fun t299 => (some t299)) else (samphirelaw11_HeapDown.l0 k x0 ([] : List (S25)) x0 (x0.length : Int) 0)
def samphirelaw11_HeapDown.l0 : Nat → List (S25) → List (S25) → List (S25) → Int → Int → Option (Bool)
 | 0, _, _, _, _, _ => none
 | k + 1, x0, x3, x22, x23, x24 => if x24 < x23 then (if 0 ≤ x24 then (if x24 < (x22.length : Int) then ((heap_Push.f k x3 ((rd_T25 x22 x24).f0) ((rd_T25 x22 x24).f1) ((rd_T25 x22 x24).f2)).bind fun bt302 => (if bt302.2 = 0 then (samphirelaw11_HeapDown.l0 k x0 bt302.1 x22 x23 (wrap64 (x24 + 1))) else (some false))) else (none)) else (none)) else ((heap_Down.f k x3).bind fun t306 => (if (t306.length : Int) = (x0.length : Int) then (samphirelaw11_HeapDown.l1 k t306 x0 t306 (t306.length : Int) 0) else (some false)))
def samphirelaw11_HeapDown.l1 : Nat → List (S25) → List (S25) → List (S25) → Int → Int → Option (Bool)
 | 0, _, _, _, _, _ => none
 | k + 1, x8, x9, x46, x47, x48 => if x48 < x47 then (if 0 ≤ x48 then (if x48 < (x46.length : Int) then (if x48 > 0 then (if 0 ≤ (wrap64 (x48 - 1)) then (if (wrap64 (x48 - 1)) < (x8.length : Int) then ((rank_Cmp.f k ((rd_T25 x8 (wrap64 (x48 - 1))).f0) ((rd_T25 x8 (wrap64 (x48 - 1))).f1) ((rd_T25 x8 (wrap64 (x48 - 1))).f2) ((rd_T25 x46 x48).f0) ((rd_T25 x46 x48).f1) ((rd_T25 x46 x48).f2)).bind fun t313 => (samphirelaw11_HeapDown.j3 k x8 x9 x46 x47 x48 (decide (t313 < 0)) ((rd_T25 x46 x48).f0) ((rd_T25 x46 x48).f1) ((rd_T25 x46 x48).f2))) else (none)) else (none)) else (samphirelaw11_HeapDown.j3 k x8 x9 x46 x47 x48 false ((rd_T25 x46 x48).f0) ((rd_T25 x46 x48).f1) ((rd_T25 x46 x48).f2))) else (none)) else (none)) else ((samphirelaw11_awake.f k).bind fun t309 => (some t309))
def samphirelaw11_HeapDown.j3 : Nat → List (S25) → List (S25) → List (S25) → Int → Int → Bool → ByteArray → Int → Int → Option (Bool)
 | 0, _, _, _, _, _, _, _, _, _ => none
 | k + 1, x8, x9, x46, x47, x48, x64, x312000, x312001, x312002 => if x64 = true then (some false) else ((samphirelaw11_without.f k x9 x312000 x312001 x312002).bind fun t314 => (if (t314.length : Int) = (wrap64 ((x9.length : Int) - 1)) then (samphirelaw11_HeapDown.l1 k x8 t314 x46 x47 (wrap64 (x48 + 1))) else (some false)))
end
def samphirelaw11_HeapDown.f (k : Nat) (l0 : List (S25)) : Option (Bool) := (samphireref10_Small.f k l0).bind fun t297 => (if t297 = true then ((samphireref10_All.f k l0).bind fun t298 => (samphirelaw11_HeapDown.j0 k l0 (!t298))) else (samphirelaw11_HeapDown.j0 k l0 true))
theorem samphirelaw11_HeapDown.mono_l : ∀ k, (∀ y0 y1, LeO (samphirelaw11_HeapDown.j0 k y0 y1) (samphirelaw11_HeapDown.j0 (k + 1) y0 y1)) ∧ (∀ y0 y1 y2 y3 y4, LeO (samphirelaw11_HeapDown.l0 k y0 y1 y2 y3 y4) (samphirelaw11_HeapDown.l0 (k + 1) y0 y1 y2 y3 y4)) ∧ (∀ y0 y1 y2 y3 y4, LeO (samphirelaw11_HeapDown.l1 k y0 y1 y2 y3 y4) (samphirelaw11_HeapDown.l1 (k + 1) y0 y1 y2 y3 y4)) ∧ (∀ y0 y1 y2 y3 y4 y5 y6 y7 y8, LeO (samphirelaw11_HeapDown.j3 k y0 y1 y2 y3 y4 y5 y6 y7 y8) (samphirelaw11_HeapDown.j3 (k + 1) y0 y1 y2 y3 y4 y5 y6 y7 y8))
 | 0 => ⟨fun _ _ r h => by simp [samphirelaw11_HeapDown.j0] at h, fun _ _ _ _ _ r h => by simp [samphirelaw11_HeapDown.l0] at h, fun _ _ _ _ _ r h => by simp [samphirelaw11_HeapDown.l1] at h, fun _ _ _ _ _ _ _ _ _ r h => by simp [samphirelaw11_HeapDown.j3] at h⟩
 | k + 1 => by
  obtain ⟨ih0, ih1, ih2, ih3⟩ := samphirelaw11_HeapDown.mono_l k
  refine ⟨?_, ?_, ?_, ?_⟩
  ·
   intro y0 y1
   unfold samphirelaw11_HeapDown.j0
   repeat' first
   | (with_reducible exact ih0 _ _)
   | (with_reducible exact ih1 _ _ _ _ _)
   | (with_reducible exact ih2 _ _ _ _ _)
   | (with_reducible exact ih3 _ _ _ _ _ _ _ _ _)
   | (with_reducible exact heap_Down.mono _ _)
   | (with_reducible exact heap_Push.mono _ _ _ _ _)
   | (with_reducible exact rank_Cmp.mono _ _ _ _ _ _ _)
   | (with_reducible exact samphirelaw11_awake.mono _)
   | (with_reducible exact samphirelaw11_without.mono _ _ _ _ _)
   | (with_reducible exact samphireref10_All.mono _ _)
   | (with_reducible exact samphireref10_Small.mono _ _)
   | (with_reducible exact LeO.refl _)
   | (with_reducible exact LeO.none _)
   | (with_reducible refine LeO.ite ?_ ?_)
   | (with_reducible refine LeO.bind ?_ (fun _ => ?_))
   | exact ih0 _ _
   | exact ih1 _ _ _ _ _
   | exact ih2 _ _ _ _ _
   | exact ih3 _ _ _ _ _ _ _ _ _
   | exact heap_Down.mono _ _
   | exact heap_Push.mono _ _ _ _ _
   | exact rank_Cmp.mono _ _ _ _ _ _ _
   | exact samphirelaw11_awake.mono _
   | exact samphirelaw11_without.mono _ _ _ _ _
   | exact samphireref10_All.mono _ _
   | exact samphireref10_Small.mono _ _
   | exact LeO.none _
   | refine LeO.ite ?_ ?_
   | refine LeO.bind ?_ (fun _ => ?_)
  ·
   intro y0 y1 y2 y3 y4
   unfold samphirelaw11_HeapDown.l0
   repeat' first
   | (with_reducible exact ih0 _ _)
   | (with_reducible exact ih1 _ _ _ _ _)
   | (with_reducible exact ih2 _ _ _ _ _)
   | (with_reducible exact ih3 _ _ _ _ _ _ _ _ _)
   | (with_reducible exact heap_Down.mono _ _)
   | (with_reducible exact heap_Push.mono _ _ _ _ _)
   | (with_reducible exact rank_Cmp.mono _ _ _ _ _ _ _)
   | (with_reducible exact samphirelaw11_awake.mono _)
   | (with_reducible exact samphirelaw11_without.mono _ _ _ _ _)
   | (with_reducible exact samphireref10_All.mono _ _)
   | (with_reducible exact samphireref10_Small.mono _ _)
   | (with_reducible exact LeO.refl _)
   | (with_reducible exact LeO.none _)
   | (with_reducible refine LeO.ite ?_ ?_)
   | (with_reducible refine LeO.bind ?_ (fun _ => ?_))
   | exact ih0 _ _
   | exact ih1 _ _ _ _ _
   | exact ih2 _ _ _ _ _
   | exact ih3 _ _ _ _ _ _ _ _ _
   | exact heap_Down.mono _ _
   | exact heap_Push.mono _ _ _ _ _
   | exact rank_Cmp.mono _ _ _ _ _ _ _
   | exact samphirelaw11_awake.mono _
   | exact samphirelaw11_without.mono _ _ _ _ _
   | exact samphireref10_All.mono _ _
   | exact samphireref10_Small.mono _ _
   | exact LeO.none _
   | refine LeO.ite ?_ ?_
   | refine LeO.bind ?_ (fun _ => ?_)
  ·
   intro y0 y1 y2 y3 y4
   unfold samphirelaw11_HeapDown.l1
   repeat' first
   | (with_reducible exact ih0 _ _)
   | (with_reducible exact ih1 _ _ _ _ _)
   | (with_reducible exact ih2 _ _ _ _ _)
   | (with_reducible exact ih3 _ _ _ _ _ _ _ _ _)
   | (with_reducible exact heap_Down.mono _ _)
   | (with_reducible exact heap_Push.mono _ _ _ _ _)
   | (with_reducible exact rank_Cmp.mono _ _ _ _ _ _ _)
   | (with_reducible exact samphirelaw11_awake.mono _)
   | (with_reducible exact samphirelaw11_without.mono _ _ _ _ _)
   | (with_reducible exact samphireref10_All.mono _ _)
   | (with_reducible exact samphireref10_Small.mono _ _)
   | (with_reducible exact LeO.refl _)
   | (with_reducible exact LeO.none _)
   | (with_reducible refine LeO.ite ?_ ?_)
   | (with_reducible refine LeO.bind ?_ (fun _ => ?_))
   | exact ih0 _ _
   | exact ih1 _ _ _ _ _
   | exact ih2 _ _ _ _ _
   | exact ih3 _ _ _ _ _ _ _ _ _
   | exact heap_Down.mono _ _
   | exact heap_Push.mono _ _ _ _ _
   | exact rank_Cmp.mono _ _ _ _ _ _ _
   | exact samphirelaw11_awake.mono _
   | exact samphirelaw11_without.mono _ _ _ _ _
   | exact samphireref10_All.mono _ _
   | exact samphireref10_Small.mono _ _
   | exact LeO.none _
   | refine LeO.ite ?_ ?_
   | refine LeO.bind ?_ (fun _ => ?_)
  ·
   intro y0 y1 y2 y3 y4 y5 y6 y7 y8
   unfold samphirelaw11_HeapDown.j3
   repeat' first
   | (with_reducible exact ih0 _ _)
   | (with_reducible exact ih1 _ _ _ _ _)
   | (with_reducible exact ih2 _ _ _ _ _)
   | (with_reducible exact ih3 _ _ _ _ _ _ _ _ _)
   | (with_reducible exact heap_Down.mono _ _)
   | (with_reducible exact heap_Push.mono _ _ _ _ _)
   | (with_reducible exact rank_Cmp.mono _ _ _ _ _ _ _)
   | (with_reducible exact samphirelaw11_awake.mono _)
   | (with_reducible exact samphirelaw11_without.mono _ _ _ _ _)
   | (with_reducible exact samphireref10_All.mono _ _)
   | (with_reducible exact samphireref10_Small.mono _ _)
   | (with_reducible exact LeO.refl _)
   | (with_reducible exact LeO.none _)
   | (with_reducible refine LeO.ite ?_ ?_)
   | (with_reducible refine LeO.bind ?_ (fun _ => ?_))
   | exact ih0 _ _
   | exact ih1 _ _ _ _ _
   | exact ih2 _ _ _ _ _
   | exact ih3 _ _ _ _ _ _ _ _ _
   | exact heap_Down.mono _ _
   | exact heap_Push.mono _ _ _ _ _
   | exact rank_Cmp.mono _ _ _ _ _ _ _
   | exact samphirelaw11_awake.mono _
   | exact samphirelaw11_without.mono _ _ _ _ _
   | exact samphireref10_All.mono _ _
   | exact samphireref10_Small.mono _ _
   | exact LeO.none _
   | refine LeO.ite ?_ ?_
   | refine LeO.bind ?_ (fun _ => ?_)
theorem samphirelaw11_HeapDown.mono : ∀ a0 k, LeO (samphirelaw11_HeapDown.f k a0) (samphirelaw11_HeapDown.f (k + 1) a0) := by
 intro a0 k
 obtain ⟨ih0, ih1, ih2, ih3⟩ := samphirelaw11_HeapDown.mono_l k
 unfold samphirelaw11_HeapDown.f
 repeat' first
   | (with_reducible exact ih0 _ _)
   | (with_reducible exact ih1 _ _ _ _ _)
   | (with_reducible exact ih2 _ _ _ _ _)
   | (with_reducible exact ih3 _ _ _ _ _ _ _ _ _)
   | (with_reducible exact heap_Down.mono _ _)
   | (with_reducible exact heap_Push.mono _ _ _ _ _)
   | (with_reducible exact rank_Cmp.mono _ _ _ _ _ _ _)
   | (with_reducible exact samphirelaw11_awake.mono _)
   | (with_reducible exact samphirelaw11_without.mono _ _ _ _ _)
   | (with_reducible exact samphireref10_All.mono _ _)
   | (with_reducible exact samphireref10_Small.mono _ _)
   | (with_reducible exact LeO.refl _)
   | (with_reducible exact LeO.none _)
   | (with_reducible refine LeO.ite ?_ ?_)
   | (with_reducible refine LeO.bind ?_ (fun _ => ?_))
   | exact ih0 _ _
   | exact ih1 _ _ _ _ _
   | exact ih2 _ _ _ _ _
   | exact ih3 _ _ _ _ _ _ _ _ _
   | exact heap_Down.mono _ _
   | exact heap_Push.mono _ _ _ _ _
   | exact rank_Cmp.mono _ _ _ _ _ _ _
   | exact samphirelaw11_awake.mono _
   | exact samphirelaw11_without.mono _ _ _ _ _
   | exact samphireref10_All.mono _ _
   | exact samphireref10_Small.mono _ _
   | exact LeO.none _
   | refine LeO.ite ?_ ?_
   | refine LeO.bind ?_ (fun _ => ?_)
def samphirelaw11_HeapDown.T19 : Bool × List (List Nat × List Nat) := (true, [([], []), ([0], [0]), ([1], [1]), ([2], [2]), ([2], [2]), ([4, 2], [2, 4]), ([3, 5, 2], [2, 3, 5]), ([6, 2], [2, 6]), ([2], [2]), ([7, 8, 2, 2], [2, 7, 8]), ([9, 2], [2, 9]), ([2, 10], [2, 10])])
def samphirelaw11_HeapDown.B19 : List Nat := [0, 1, 3, 7, 7, 23, 63, 127, 7, 511, 1023, 2047]
theorem samphirelaw11_HeapDown.tab19 : rtab .any (opsOf Try.f5 19) = samphirelaw11_HeapDown.T19 := by kernel_rfl
theorem samphirelaw11_HeapDown.bits19 : waitsOk samphirelaw11_HeapDown.T19.2 samphirelaw11_HeapDown.B19 = true := by kernel_rfl
set_option maxHeartbeats 8000000 in
set_option maxRecDepth 100000 in
theorem samphirelaw11_HeapDown.calls (k : Nat) (P0_ : Nat → Prop) (A0 : Option Addr) (c0 : Nat) (l0 : List (S25)) (r : Bool) (w : World) (hs0 : Kd.V k25 25 w w.heap.size (fun k_ => P0_ k_) (.slice A0 l0.length c0) l0) (h : samphirelaw11_HeapDown.f k l0 = some r) :
  Calls Try.prog 5 #[.slice A0 l0.length c0] w fun e w' => e = .returned (.bool r) ∧ Below w.heap.size w w' := by
 have hu25 := Try.underlying25
 have HO0 := Aside0.mk (show Kd.V k25 25 w w.heap.size (fun k_ => (P0_ k_ ∨ w.heap.size ≤ k_)) (.slice A0 l0.length c0) l0 from Kd.V_mono hs0 (fun k_ hk => .inl hk))
 have HB := Aside0.mk (Below.refl w.heap.size w)
 have H : ((samphireref10_Small.f k l0).bind fun t297 => (if t297 = true then ((samphireref10_All.f k l0).bind fun t298 => (samphirelaw11_HeapDown.j0 k l0 (!t298))) else (samphirelaw11_HeapDown.j0 k l0 true))) = some r := h
 clear h
 have HC2 := Aside0.mk H
 clear H
 go_enter Try.func5, Try.ntmps5
 go_upto_region 1 with (fail)
 go_cut [20] (fun v20 wc => ∃ (kq : Nat) (x20_1 : Bool), v20 = .bool x20_1 ∧ Aside0 (samphirelaw11_HeapDown.j0 kq l0 x20_1 = some r) ∧ Aside0 (kq ≤ k) ∧ Aside0 (Kd.V k25 25 wc w.heap.size (fun k_ => (P0_ k_ ∨ w.heap.size ≤ k_)) (.slice A0 l0.length c0) l0) ∧ Aside0 (Below w.heap.size w wc))
 case first =>
  have H := HC2.out
  clear HC2
  replace H := Option.bind_eq_some_iff.mp H
  obtain ⟨t297, A30, H⟩ := H
  replace H : (if t297 = true then ((samphireref10_All.f k l0).bind fun t298 => (samphirelaw11_HeapDown.j0 k l0 (!t298))) else (samphirelaw11_HeapDown.j0 k l0 true)) = some r := H
  have A3 := Aside0.mk A30
  clear A30
  by_cases c4 : t297 = true
  ·
   subst c4
   have H1 : ((samphireref10_All.f k l0).bind fun t298 => (samphirelaw11_HeapDown.j0 k l0 (!t298))) = some r := by rw [if_pos rfl] at H; exact H
   clear H
   have H := H1
   clear H1
   replace H := Option.bind_eq_some_iff.mp H
   obtain ⟨t298, A50, H⟩ := H
   replace H : (samphirelaw11_HeapDown.j0 k l0 (!t298)) = some r := H
   have A5 := Aside0.mk A50
   clear A50
   have H' := Aside0.mk H
   clear H
   go_wp2_with (first | ((with_reducible refine gate_callee (f := 8) rfl ?_); refine goesL_ (some 14) rfl rfl Try.func8 (by kernel_rfl) rfl #[.slice A0 l0.length c0] rfl (by (try simp only [List.map_toArray, List.map_cons, List.map_nil]); first | done | rfl | (simp only [List.length_drop, List.length_take]; rfl)) ?_; (with_reducible refine (samphireref10_Small.calls k _ _ l0 true _ ?side1 ?side2 A3.out).mono ?_); (case side1 => repeat (first | exact (Kd.V_reads' HO0.out).2.2 | (with_reducible refine Kd.C_alloc ?_ _) | (with_reducible refine Kd.C_drewN ?_ _) | (with_reducible refine Kd.C_drew ?_))); (case side2 => exact (Kd.V_reads' HO0.out).2.1); rintro e w' ⟨rfl, ⟨nd, rfl⟩⟩; refine ⟨_, rfl, ?_⟩) | (go_at_call 25; (with_reducible refine (samphireref10_All.calls k _ _ l0 t298 _ ?side1 ?side2 A5.out).mono ?_); (case side1 => repeat (first | exact (Kd.V_reads' HO0.out).2.2 | (with_reducible refine Kd.C_alloc ?_ _) | (with_reducible refine Kd.C_drewN ?_ _) | (with_reducible refine Kd.C_drew ?_))); (case side2 => exact (Kd.V_reads' HO0.out).2.1); rintro e w6 ⟨rfl, hb⟩; have n0_ := Aside0.mk (Kd.V_below (by (with_reducible repeat (first | apply Kd.V_alloc | apply Kd.V_drewN | apply Kd.V_drew)); exact HO0.out) hb); have n1_ := Aside0.mk (below_step (by repeat (first | (with_reducible first | exact HB.out | apply below_alloc | apply pw_below_drewN | apply below_drew1) | exact HB.out)) hb); clear HO0; clear HB; have HO0 := n0_; have HB := n1_; clear n0_ n1_; (try clear hb); (try clear hb2); (try clear hk); (try clear hi)))
   go_meet
   case rel => exact ⟨_, (!t298), (by first | rfl | (simp; done) | (simp [*]; done)), H', ⟨by first | omega | exact Nat.le_refl _⟩, ⟨by (with_reducible repeat (first | apply Kd.V_alloc | apply Kd.V_drewN | apply Kd.V_drew)); exact HO0.out⟩, ⟨by repeat (first | (with_reducible first | exact HB.out | apply below_alloc | apply pw_below_drewN | apply below_drew1) | exact HB.out)⟩⟩
  ·
   replace c4 := Bool.eq_false_iff.mpr c4
   subst c4
   have H1 : (samphirelaw11_HeapDown.j0 k l0 true) = some r := by rw [if_neg (show ¬ (false = true) by decide)] at H; exact H
   clear H
   have H := H1
   clear H1
   have H' := Aside0.mk H
   clear H
   go_wp2_with (first | ((with_reducible refine gate_callee (f := 8) rfl ?_); refine goesL_ (some 14) rfl rfl Try.func8 (by kernel_rfl) rfl #[.slice A0 l0.length c0] rfl (by (try simp only [List.map_toArray, List.map_cons, List.map_nil]); first | done | rfl | (simp only [List.length_drop, List.length_take]; rfl)) ?_; (with_reducible refine (samphireref10_Small.calls k _ _ l0 false _ ?side1 ?side2 A3.out).mono ?_); (case side1 => repeat (first | exact (Kd.V_reads' HO0.out).2.2 | (with_reducible refine Kd.C_alloc ?_ _) | (with_reducible refine Kd.C_drewN ?_ _) | (with_reducible refine Kd.C_drew ?_))); (case side2 => exact (Kd.V_reads' HO0.out).2.1); rintro e w' ⟨rfl, ⟨nd, rfl⟩⟩; refine ⟨_, rfl, ?_⟩))
   go_meet
   case rel => exact ⟨_, (true), (by first | rfl | (simp; done) | (simp [*]; done)), H', ⟨by first | omega | exact Nat.le_refl _⟩, ⟨by (with_reducible repeat (first | apply Kd.V_alloc | apply Kd.V_drewN | apply Kd.V_drew)); exact HO0.out⟩, ⟨by repeat (first | (with_reducible first | exact HB.out | apply below_alloc | apply pw_below_drewN | apply below_drew1) | exact HB.out)⟩⟩
 case rest =>
  clear HC2
  try clear p2
  try clear c4
  try clear c5
  obtain ⟨kq, x20_1, rfl, HA, HJ1, HO_0, HB⟩ := hcut
  cases kq with
  | zero => exact absurd HA.out (by simp [samphirelaw11_HeapDown.j0])
  | succ kj1 =>
   have H := HA.out
   clear HA
   simp only [samphirelaw11_HeapDown.j0] at H
   by_cases c7 : x20_1 = true
   ·
    subst c7
    have H1 : ((samphirelaw11_awake.f kj1).bind fun t299 => (some t299)) = some r := by rw [if_pos rfl] at H; exact H
    clear H
    have H := H1
    clear H1
    replace H := Option.bind_eq_some_iff.mp H
    obtain ⟨t299, A80, H⟩ := H
    replace H : (some t299) = some r := H
    have A8 := Aside0.mk A80
    clear A80
    obtain rfl := Option.some.inj H
    go_wp2_with (first | ((with_reducible refine gate_callee (f := 9) rfl ?_); refine goesL_ (some 21) rfl rfl Try.func9 (by kernel_rfl) rfl #[] rfl (by (try simp only [List.map_toArray, List.map_cons, List.map_nil]); first | done | rfl | (simp only [List.length_drop, List.length_take]; rfl)) ?_; (with_reducible refine (samphirelaw11_awake.calls kj1  t299 _ A8.out).mono ?_); rintro e w9 ⟨rfl, hb⟩; refine ⟨_, rfl, ?_⟩; have n0_ := Aside0.mk (Kd.V_below (by (with_reducible repeat (first | apply Kd.V_alloc | apply Kd.V_drewN | apply Kd.V_drew)); exact HO_0.out) hb); have n1_ := Aside0.mk (below_step (by repeat (first | (with_reducible first | exact HB.out | apply below_alloc | apply pw_below_drewN | apply below_drew1) | exact HB.out)) hb); clear HO_0; clear HB; have HO_0 := n0_; have HB := n1_; clear n0_ n1_; (try clear hb); (try clear hb2); (try clear hk); (try clear hi)))
    go_ret
    exact ⟨by first | rfl | (simp [errW_none, errW_some] <;> rfl) | (simp [*, errW_none, errW_some] <;> rfl), by repeat (first | (with_reducible first | exact HB.out | apply below_alloc | apply pw_below_drewN | apply below_drew1) | exact HB.out)⟩
   ·
    replace c7 := Bool.eq_false_iff.mpr c7
    subst c7
    have H1 : (samphirelaw11_HeapDown.l0 kj1 l0 ([] : List (S25)) l0 (l0.length : Int) 0) = some r := by rw [if_neg (show ¬ (false = true) by decide)] at H; exact H
    clear H
    have H := H1
    clear H1
    have H' := Aside0.mk H
    clear H
    go_wp2
    go_loopg [3, 24] kj1 (fun kq v3 v24 w' => ∃ (x3_2 : List (S25)) (x24_2 : Int), v24 = .int .i64 x24_2 ∧ Aside0 (samphirelaw11_HeapDown.l0 kq l0 x3_2 l0 (l0.length : Int) x24_2 = some r) ∧ Aside0 (kq ≤ kj1) ∧ Aside0 (Kd.V k25 25 w' w.heap.size (fun k_ => (P0_ k_ ∨ w.heap.size ≤ k_)) (.slice A0 l0.length c0) l0) ∧ Aside0 (Kd.V k25 25 w' w.heap.size (fun k_ => (P0_ k_ ∨ w.heap.size ≤ k_)) v3 x3_2) ∧ Aside0 (Kd.V k25 25 w' w.heap.size (fun k_ => (P0_ k_ ∨ w.heap.size ≤ k_)) (.slice A0 l0.length c0) l0) ∧ Aside0 (Below w.heap.size w w'))
    case atStart => exact ⟨(([] : List (S25))), (0), (by first | rfl | (simp; done) | (simp [*]; done)), H', ⟨Nat.le_refl _⟩, ⟨by (with_reducible repeat (first | apply Kd.V_alloc | apply Kd.V_drewN | apply Kd.V_drew)); exact HO_0.out⟩, ⟨Kd.V_nil _ _ _ _ _⟩, ⟨by (with_reducible repeat (first | apply Kd.V_alloc | apply Kd.V_drewN | apply Kd.V_drew)); exact HO_0.out⟩, ⟨by repeat (first | (with_reducible first | exact HB.out | apply below_alloc | apply pw_below_drewN | apply below_drew1) | exact HB.out)⟩⟩
    case round =>
     clear H'
     try clear p2
     try clear c4
     try clear c5
     try clear c7
     try clear c8
     try clear c9
     try clear p2
     obtain ⟨x3_2, x24_2, rfl, HA, HK2, HO_0, HO_3, HO_22, HB⟩ := hrel
     cases gk with
     | zero => exact absurd HA.out (by simp [samphirelaw11_HeapDown.l0])
     | succ k2 =>
      have H := HA.out
      clear HA
      simp only [samphirelaw11_HeapDown.l0] at H
      by_cases c10 : x24_2 < (l0.length : Int)
      ·
       rw [if_pos c10] at H
       have c10b0 : decide (x24_2 < (l0.length : Int)) = true := decide_eq_true c10
       clear c10
       by_cases c11 : 0 ≤ x24_2
       ·
        rw [if_pos c11] at H
        have c11b0 : decide (0 ≤ x24_2) = true := decide_eq_true c11
        clear c11
        by_cases c12 : x24_2 < (l0.length : Int)
        ·
         rw [if_pos c12] at H
         have c12b0 : decide (x24_2 < (l0.length : Int)) = true := decide_eq_true c12
         clear c12
         replace H := Option.bind_eq_some_iff.mp H
         obtain ⟨⟨t302, t305⟩, A130, H⟩ := H
         replace H : (if t305 = 0 then (samphirelaw11_HeapDown.l0 k2 l0 t302 l0 (l0.length : Int) (wrap64 (x24_2 + 1))) else (some false)) = some r := H
         have A13 := Aside0.mk A130
         clear A130
         by_cases c14 : t305 = 0
         ·
          rw [if_pos c14] at H
          have c14b0 : (t305 == 0) = true := beq_iff_eq.mpr c14
          have c14b1 : (t305 != 0) = false := bne_eq_false_iff_eq.mpr c14
          clear c14
          have H' := Aside0.mk H
          clear H
          have p300 : 0 ≤ (x24_2 : Int) := of_decide_eq_true (by first | (with_reducible assumption) | assumption)
          have q300 : x24_2 < (l0.length : Int) := of_decide_eq_true (by first | (with_reducible assumption) | assumption)
          obtain ⟨ad300, e300, hx300_0, hx300_1, hx300_2⟩ := at_T25 (Kd.V_reads' HO_22.out).2.2 x24_2 p300 q300
          cases e300
          replace p300 := eq_true p300
          replace q300 := eq_true q300
          go_wp2_with (first | ((with_reducible refine gate_dst (N := 5) rfl ?_); refine box_event ?hg (N := 5) ?hd (cs := #[.string (⟨#[]⟩ : ByteArray), .int .u64 0, .int .u64 0]) (t := 25) ?hr ?_; (case hd => rfl); (case hg => rfl); (case hr => first | (go_simp; done) | (go_simp; rfl)); intro gb301 hg w15 hbox hb; have n0_ := Aside0.mk (Kd.V_below (Kd.V_elderB (by (with_reducible repeat (first | apply Kd.V_alloc | apply Kd.V_drewN | apply Kd.V_drew)); exact HO_0.out) gb301 (Nat.le_of_eq hg.symm)) hb); have n1_ := Aside0.mk (Kd.V_below (Kd.V_elderB (by (with_reducible repeat (first | apply Kd.V_alloc | apply Kd.V_drewN | apply Kd.V_drew)); exact HO_3.out) gb301 (Nat.le_of_eq hg.symm)) hb); have n2_ := Aside0.mk (Kd.V_below (Kd.V_elderB (by (with_reducible repeat (first | apply Kd.V_alloc | apply Kd.V_drewN | apply Kd.V_drew)); exact HO_22.out) gb301 (Nat.le_of_eq hg.symm)) hb); have n3_ := Aside0.mk (below_step (by repeat (first | (with_reducible first | exact HB.out | apply below_alloc | apply pw_below_drewN | apply below_drew1) | exact HB.out)) hb); have n4_ := Aside0.mk (hbox); have n5_ := Aside0.mk ((by rw [hg]; exact (below_size (by repeat (first | (with_reducible first | exact HB.out | apply below_alloc | apply pw_below_drewN | apply below_drew1) | exact HB.out))) : w.heap.size ≤ gb301)); have n6_ := Aside0.mk ((by rw [hg]; exact (below_size (by repeat (first | (with_reducible first | exact HB.out | apply below_alloc | apply pw_below_drewN | apply below_drew1) | exact HB.out))) : w.heap.size ≤ gb301)); clear HO_0; clear HO_3; clear HO_22; clear HB; have HO_0 := n0_; have HO_3 := n1_; have HO_22 := n2_; have HB := n3_; have BK301 := n4_; have GW301 := n5_; have GE301 := n6_; clear n0_ n1_ n2_ n3_ n4_ n5_ n6_; clear hb hbox hg; have hcz16_0 : w15.cell? ⟨gb301, 0, none⟩ = some (.string (⟨#[]⟩ : ByteArray)) := (blk_cell BK301.out 0).trans rfl; have hcz16_1 : w15.cell? ⟨gb301, 1, none⟩ = some (.int .u64 0) := (blk_cell BK301.out 1).trans rfl; have hcz16_2 : w15.cell? ⟨gb301, 2, none⟩ = some (.int .u64 0) := (blk_cell BK301.out 2).trans rfl; have hfz16_0 := blk_frozen BK301.out 0; have hfz16_1 := blk_frozen BK301.out 1; have hfz16_2 := blk_frozen BK301.out 2) | ((with_reducible refine gate_store (t := 25) (p := 5) rfl ?_); refine store_event (t := 25) (p := 5) (v := ?vo_w17) (w1 := (((w15.setCell ⟨gb301, 0, none⟩ (.string ((rd_T25 l0 x24_2).f0))).setCell ⟨gb301, 1, none⟩ (.int .u64 ((rd_T25 l0 x24_2).f1))).setCell ⟨gb301, 2, none⟩ (.int .u64 ((rd_T25 l0 x24_2).f2)))) ?hg ?ho ?hn ?hr ?_; (case ho => rfl); (case hg => rfl); (case hn => rfl); (case hr => first | (go_simp; done) | (go_simp; rfl)); intro w17 hw; have n0_ : Aside0 (Kd.V k25 25 w17 w.heap.size (fun k_ => (P0_ k_ ∨ w.heap.size ≤ k_) ∧ k_ ≠ gb301) (.slice (some ad300) l0.length c0) l0) := ⟨(by rw [hw]; exact (by (with_reducible repeat (first | apply Kd.V_alloc | apply Kd.V_drewN | apply Kd.V_drew)); exact Kd.V_mono (Kd.V_far (p := ⟨gb301, 2, none⟩) (Kd.V_far (p := ⟨gb301, 1, none⟩) (Kd.V_far (p := ⟨gb301, 0, none⟩) (Kd.V_mono HO_0.out (fun k_ hk => (⟨hk, hk.2⟩ : _ ∧ k_ ≠ gb301))) (fun _ hk => hk.2) (.string ((rd_T25 l0 x24_2).f0))) (fun _ hk => hk.2) (.int .u64 ((rd_T25 l0 x24_2).f1))) (fun _ hk => hk.2) (.int .u64 ((rd_T25 l0 x24_2).f2))) (fun _ hk => ⟨hk.1.1, hk.1.2⟩)))⟩; have n1_ : Aside0 (Kd.V k25 25 w17 w.heap.size (fun k_ => (P0_ k_ ∨ w.heap.size ≤ k_) ∧ k_ ≠ gb301) u3 x3_2) := ⟨(by rw [hw]; exact (by (with_reducible repeat (first | apply Kd.V_alloc | apply Kd.V_drewN | apply Kd.V_drew)); exact Kd.V_mono (Kd.V_far (p := ⟨gb301, 2, none⟩) (Kd.V_far (p := ⟨gb301, 1, none⟩) (Kd.V_far (p := ⟨gb301, 0, none⟩) (Kd.V_mono HO_3.out (fun k_ hk => (⟨hk, hk.2⟩ : _ ∧ k_ ≠ gb301))) (fun _ hk => hk.2) (.string ((rd_T25 l0 x24_2).f0))) (fun _ hk => hk.2) (.int .u64 ((rd_T25 l0 x24_2).f1))) (fun _ hk => hk.2) (.int .u64 ((rd_T25 l0 x24_2).f2))) (fun _ hk => ⟨hk.1.1, hk.1.2⟩)))⟩; have n2_ : Aside0 (Kd.V k25 25 w17 w.heap.size (fun k_ => (P0_ k_ ∨ w.heap.size ≤ k_) ∧ k_ ≠ gb301) (.slice (some ad300) l0.length c0) l0) := ⟨(by rw [hw]; exact (by (with_reducible repeat (first | apply Kd.V_alloc | apply Kd.V_drewN | apply Kd.V_drew)); exact Kd.V_mono (Kd.V_far (p := ⟨gb301, 2, none⟩) (Kd.V_far (p := ⟨gb301, 1, none⟩) (Kd.V_far (p := ⟨gb301, 0, none⟩) (Kd.V_mono HO_22.out (fun k_ hk => (⟨hk, hk.2⟩ : _ ∧ k_ ≠ gb301))) (fun _ hk => hk.2) (.string ((rd_T25 l0 x24_2).f0))) (fun _ hk => hk.2) (.int .u64 ((rd_T25 l0 x24_2).f1))) (fun _ hk => hk.2) (.int .u64 ((rd_T25 l0 x24_2).f2))) (fun _ hk => ⟨hk.1.1, hk.1.2⟩)))⟩; have n3_ : Aside0 (w17.heap[gb301]? = some (.cells #[.string ((rd_T25 l0 x24_2).f0), .int .u64 ((rd_T25 l0 x24_2).f1), .int .u64 ((rd_T25 l0 x24_2).f2)] 25 (0, 0))) := ⟨(by rw [hw]; exact (by (with_reducible repeat (first | refine blk_drewN ?_ _ | refine blk_drew ?_ | refine blk_alloc ?_ _)); refine blk_put (cs := #[.string ((rd_T25 l0 x24_2).f0), .int .u64 ((rd_T25 l0 x24_2).f1), .int .u64 0]) ?_ 2 _ rfl; (with_reducible repeat (first | refine blk_drewN ?_ _ | refine blk_drew ?_ | refine blk_alloc ?_ _)); refine blk_put (cs := #[.string ((rd_T25 l0 x24_2).f0), .int .u64 0, .int .u64 0]) ?_ 1 _ rfl; (with_reducible repeat (first | refine blk_drewN ?_ _ | refine blk_drew ?_ | refine blk_alloc ?_ _)); refine blk_put (cs := #[.string (⟨#[]⟩ : ByteArray), .int .u64 0, .int .u64 0]) ?_ 0 _ rfl; (with_reducible repeat (first | refine blk_drewN ?_ _ | refine blk_drew ?_ | refine blk_alloc ?_ _)); exact BK301.out))⟩; have n4_ : Aside0 (Below w.heap.size w w17) := ⟨(by rw [hw]; exact (by repeat (first | (with_reducible first | exact HB.out | apply below_alloc | apply pw_below_drewN | apply below_drew1 | refine below_set ?_ GE301.out) | exact HB.out)))⟩; clear hw; clear HO_0; clear HO_3; clear HO_22; clear BK301; clear HB; have HO_0 := n0_; have HO_3 := n1_; have HO_22 := n2_; have BK301 := n3_; have HB := n4_; clear n0_ n1_ n2_ n3_ n4_; have hcz18_0 : w17.cell? ⟨gb301, 0, none⟩ = some (.string ((rd_T25 l0 x24_2).f0)) := (blk_cell BK301.out 0).trans rfl; have hcz18_1 : w17.cell? ⟨gb301, 1, none⟩ = some (.int .u64 ((rd_T25 l0 x24_2).f1)) := (blk_cell BK301.out 1).trans rfl; have hcz18_2 : w17.cell? ⟨gb301, 2, none⟩ = some (.int .u64 ((rd_T25 l0 x24_2).f2)) := (blk_cell BK301.out 2).trans rfl; have hfz18_0 := blk_frozen BK301.out 0; have hfz18_1 := blk_frozen BK301.out 1; have hfz18_2 := blk_frozen BK301.out 2; obtain ⟨Ao19, co19, eo19⟩ := Kd.V_slice HO_3.out; subst eo19) | ((with_reducible refine gate_callee (f := 10) rfl ?_); refine goesL_ (some 31) rfl rfl Try.func10 (by kernel_rfl) rfl #[.slice Ao19 x3_2.length co19, .agg #[.string ((rd_T25 l0 x24_2).f0), .int .u64 ((rd_T25 l0 x24_2).f1), .int .u64 ((rd_T25 l0 x24_2).f2)]] rfl (by (try simp only [List.map_toArray, List.map_cons, List.map_nil]); first | done | rfl | (simp only [List.length_drop, List.length_take]; rfl)) ?_; (with_reducible refine (heap_Push.calls k2 (fun k_ => ((P0_ k_ ∨ w.heap.size ≤ k_) ∧ k_ ≠ gb301)) _ _ x3_2 ((rd_T25 l0 x24_2).f0) ((rd_T25 l0 x24_2).f1) ((rd_T25 l0 x24_2).f2) t302 t305 _ ?side1 A13.out).mono ?_); (case side1 => exact HO_3.out); rintro e w20 ⟨v303, rfl, ho0, hb⟩; refine ⟨_, rfl, ?_⟩; have n0_ := Aside0.mk (Kd.V_below (by (with_reducible repeat (first | apply Kd.V_alloc | apply Kd.V_drewN | apply Kd.V_drew)); exact HO_0.out) hb); have n1_ := Aside0.mk (Kd.V_below (by (with_reducible repeat (first | apply Kd.V_alloc | apply Kd.V_drewN | apply Kd.V_drew)); exact HO_3.out) hb); have n2_ := Aside0.mk (Kd.V_below (by (with_reducible repeat (first | apply Kd.V_alloc | apply Kd.V_drewN | apply Kd.V_drew)); exact HO_22.out) hb); have n3_ := Aside0.mk (Kd.V_lower (Kd.V_mono (ok' := fun k_ => (P0_ k_ ∨ w.heap.size ≤ k_) ∧ k_ ≠ gb301) ho0 (fun k_ hk_ => ⟨Or.elim hk_ (fun hs_ => hs_.1) (fun hn_ => (.inr (Nat.le_trans (below_size (by repeat (first | (with_reducible first | exact HB.out | apply below_alloc | apply pw_below_drewN | apply below_drew1 | refine below_set ?_ GE301.out) | exact HB.out))) hn_))), Or.elim hk_ (fun hs_ => hs_.2) (fun hn_ => (Kd.freshB (g := gb301) (o := .cells #[.string ((rd_T25 l0 x24_2).f0), .int .u64 ((rd_T25 l0 x24_2).f1), .int .u64 ((rd_T25 l0 x24_2).f2)] 25 (0, 0)) (by (with_reducible repeat (first | refine blk_drewN ?_ _ | refine blk_drew ?_ | refine blk_alloc ?_ _)); exact BK301.out) k_ hn_))⟩)) (below_size (by repeat (first | (with_reducible first | exact HB.out | apply below_alloc | apply pw_below_drewN | apply below_drew1 | refine below_set ?_ GE301.out) | exact HB.out)))); have n4_ := Aside0.mk (blk_below (g := gb301) (o := .cells #[.string ((rd_T25 l0 x24_2).f0), .int .u64 ((rd_T25 l0 x24_2).f1), .int .u64 ((rd_T25 l0 x24_2).f2)] 25 (0, 0)) (by (with_reducible repeat (first | refine blk_drewN ?_ _ | refine blk_drew ?_ | refine blk_alloc ?_ _)); exact BK301.out) hb); have n5_ := Aside0.mk (below_step (by repeat (first | (with_reducible first | exact HB.out | apply below_alloc | apply pw_below_drewN | apply below_drew1 | refine below_set ?_ GE301.out) | exact HB.out)) hb); clear HO_0; clear HO_3; clear HO_22; clear BK301; clear HB; have HO_0 := n0_; have HO_3 := n1_; have HO_22 := n2_; have HO304 := n3_; have BK301 := n4_; have HB := n5_; clear n0_ n1_ n2_ n3_ n4_ n5_; (try clear hb); (try clear hb2); (try clear hk); (try clear hi); (try clear ho0)))
          go_roundg k2
          case measure => have := HJ1.out; have := HK2.out; omega
          case rel => exact ⟨(t302), (wrap64 (x24_2 + 1)), (by first | rfl | (simp; done) | (simp [*]; done)), H', ⟨by have := HJ1.out; have := HK2.out; omega⟩, ⟨by (with_reducible repeat (first | apply Kd.V_alloc | apply Kd.V_drewN | apply Kd.V_drew)); exact Kd.V_mono HO_0.out (fun _ hk => hk.1)⟩, ⟨by (with_reducible repeat (first | apply Kd.V_alloc | apply Kd.V_drewN | apply Kd.V_drew)); exact Kd.V_mono HO304.out (fun _ hk => hk.1)⟩, ⟨by (with_reducible repeat (first | apply Kd.V_alloc | apply Kd.V_drewN | apply Kd.V_drew)); exact Kd.V_mono HO_22.out (fun _ hk => hk.1)⟩, ⟨by repeat (first | (with_reducible first | exact HB.out | apply below_alloc | apply pw_below_drewN | apply below_drew1 | refine below_set ?_ GE301.out) | exact HB.out)⟩⟩
         ·
          rw [if_neg c14] at H
          have c14b0 : (t305 == 0) = false := beq_eq_false_iff_ne.mpr c14
          have c14b1 : (t305 != 0) = true := bne_iff_ne.mpr c14
          obtain rfl := Option.some.inj H
          have p300 : 0 ≤ (x24_2 : Int) := of_decide_eq_true (by first | (with_reducible assumption) | assumption)
          have q300 : x24_2 < (l0.length : Int) := of_decide_eq_true (by first | (with_reducible assumption) | assumption)
          obtain ⟨ad300, e300, hx300_0, hx300_1, hx300_2⟩ := at_T25 (Kd.V_reads' HO_22.out).2.2 x24_2 p300 q300
          cases e300
          replace p300 := eq_true p300
          replace q300 := eq_true q300
          go_wp2_with (first | ((with_reducible refine gate_dst (N := 5) rfl ?_); refine box_event ?hg (N := 5) ?hd (cs := #[.string (⟨#[]⟩ : ByteArray), .int .u64 0, .int .u64 0]) (t := 25) ?hr ?_; (case hd => rfl); (case hg => rfl); (case hr => first | (go_simp; done) | (go_simp; rfl)); intro gb301 hg w21 hbox hb; have n0_ := Aside0.mk (Kd.V_below (Kd.V_elderB (by (with_reducible repeat (first | apply Kd.V_alloc | apply Kd.V_drewN | apply Kd.V_drew)); exact HO_0.out) gb301 (Nat.le_of_eq hg.symm)) hb); have n1_ := Aside0.mk (Kd.V_below (Kd.V_elderB (by (with_reducible repeat (first | apply Kd.V_alloc | apply Kd.V_drewN | apply Kd.V_drew)); exact HO_3.out) gb301 (Nat.le_of_eq hg.symm)) hb); have n2_ := Aside0.mk (Kd.V_below (Kd.V_elderB (by (with_reducible repeat (first | apply Kd.V_alloc | apply Kd.V_drewN | apply Kd.V_drew)); exact HO_22.out) gb301 (Nat.le_of_eq hg.symm)) hb); have n3_ := Aside0.mk (below_step (by repeat (first | (with_reducible first | exact HB.out | apply below_alloc | apply pw_below_drewN | apply below_drew1) | exact HB.out)) hb); have n4_ := Aside0.mk (hbox); have n5_ := Aside0.mk ((by rw [hg]; exact (below_size (by repeat (first | (with_reducible first | exact HB.out | apply below_alloc | apply pw_below_drewN | apply below_drew1) | exact HB.out))) : w.heap.size ≤ gb301)); have n6_ := Aside0.mk ((by rw [hg]; exact (below_size (by repeat (first | (with_reducible first | exact HB.out | apply below_alloc | apply pw_below_drewN | apply below_drew1) | exact HB.out))) : w.heap.size ≤ gb301)); clear HO_0; clear HO_3; clear HO_22; clear HB; have HO_0 := n0_; have HO_3 := n1_; have HO_22 := n2_; have HB := n3_; have BK301 := n4_; have GW301 := n5_; have GE301 := n6_; clear n0_ n1_ n2_ n3_ n4_ n5_ n6_; clear hb hbox hg; have hcz22_0 : w21.cell? ⟨gb301, 0, none⟩ = some (.string (⟨#[]⟩ : ByteArray)) := (blk_cell BK301.out 0).trans rfl; have hcz22_1 : w21.cell? ⟨gb301, 1, none⟩ = some (.int .u64 0) := (blk_cell BK301.out 1).trans rfl; have hcz22_2 : w21.cell? ⟨gb301, 2, none⟩ = some (.int .u64 0) := (blk_cell BK301.out 2).trans rfl; have hfz22_0 := blk_frozen BK301.out 0; have hfz22_1 := blk_frozen BK301.out 1; have hfz22_2 := blk_frozen BK301.out 2) | ((with_reducible refine gate_store (t := 25) (p := 5) rfl ?_); refine store_event (t := 25) (p := 5) (v := ?vo_w23) (w1 := (((w21.setCell ⟨gb301, 0, none⟩ (.string ((rd_T25 l0 x24_2).f0))).setCell ⟨gb301, 1, none⟩ (.int .u64 ((rd_T25 l0 x24_2).f1))).setCell ⟨gb301, 2, none⟩ (.int .u64 ((rd_T25 l0 x24_2).f2)))) ?hg ?ho ?hn ?hr ?_; (case ho => rfl); (case hg => rfl); (case hn => rfl); (case hr => first | (go_simp; done) | (go_simp; rfl)); intro w23 hw; have n0_ : Aside0 (Kd.V k25 25 w23 w.heap.size (fun k_ => (P0_ k_ ∨ w.heap.size ≤ k_) ∧ k_ ≠ gb301) (.slice (some ad300) l0.length c0) l0) := ⟨(by rw [hw]; exact (by (with_reducible repeat (first | apply Kd.V_alloc | apply Kd.V_drewN | apply Kd.V_drew)); exact Kd.V_mono (Kd.V_far (p := ⟨gb301, 2, none⟩) (Kd.V_far (p := ⟨gb301, 1, none⟩) (Kd.V_far (p := ⟨gb301, 0, none⟩) (Kd.V_mono HO_0.out (fun k_ hk => (⟨hk, hk.2⟩ : _ ∧ k_ ≠ gb301))) (fun _ hk => hk.2) (.string ((rd_T25 l0 x24_2).f0))) (fun _ hk => hk.2) (.int .u64 ((rd_T25 l0 x24_2).f1))) (fun _ hk => hk.2) (.int .u64 ((rd_T25 l0 x24_2).f2))) (fun _ hk => ⟨hk.1.1, hk.1.2⟩)))⟩; have n1_ : Aside0 (Kd.V k25 25 w23 w.heap.size (fun k_ => (P0_ k_ ∨ w.heap.size ≤ k_) ∧ k_ ≠ gb301) u3 x3_2) := ⟨(by rw [hw]; exact (by (with_reducible repeat (first | apply Kd.V_alloc | apply Kd.V_drewN | apply Kd.V_drew)); exact Kd.V_mono (Kd.V_far (p := ⟨gb301, 2, none⟩) (Kd.V_far (p := ⟨gb301, 1, none⟩) (Kd.V_far (p := ⟨gb301, 0, none⟩) (Kd.V_mono HO_3.out (fun k_ hk => (⟨hk, hk.2⟩ : _ ∧ k_ ≠ gb301))) (fun _ hk => hk.2) (.string ((rd_T25 l0 x24_2).f0))) (fun _ hk => hk.2) (.int .u64 ((rd_T25 l0 x24_2).f1))) (fun _ hk => hk.2) (.int .u64 ((rd_T25 l0 x24_2).f2))) (fun _ hk => ⟨hk.1.1, hk.1.2⟩)))⟩; have n2_ : Aside0 (Kd.V k25 25 w23 w.heap.size (fun k_ => (P0_ k_ ∨ w.heap.size ≤ k_) ∧ k_ ≠ gb301) (.slice (some ad300) l0.length c0) l0) := ⟨(by rw [hw]; exact (by (with_reducible repeat (first | apply Kd.V_alloc | apply Kd.V_drewN | apply Kd.V_drew)); exact Kd.V_mono (Kd.V_far (p := ⟨gb301, 2, none⟩) (Kd.V_far (p := ⟨gb301, 1, none⟩) (Kd.V_far (p := ⟨gb301, 0, none⟩) (Kd.V_mono HO_22.out (fun k_ hk => (⟨hk, hk.2⟩ : _ ∧ k_ ≠ gb301))) (fun _ hk => hk.2) (.string ((rd_T25 l0 x24_2).f0))) (fun _ hk => hk.2) (.int .u64 ((rd_T25 l0 x24_2).f1))) (fun _ hk => hk.2) (.int .u64 ((rd_T25 l0 x24_2).f2))) (fun _ hk => ⟨hk.1.1, hk.1.2⟩)))⟩; have n3_ : Aside0 (w23.heap[gb301]? = some (.cells #[.string ((rd_T25 l0 x24_2).f0), .int .u64 ((rd_T25 l0 x24_2).f1), .int .u64 ((rd_T25 l0 x24_2).f2)] 25 (0, 0))) := ⟨(by rw [hw]; exact (by (with_reducible repeat (first | refine blk_drewN ?_ _ | refine blk_drew ?_ | refine blk_alloc ?_ _)); refine blk_put (cs := #[.string ((rd_T25 l0 x24_2).f0), .int .u64 ((rd_T25 l0 x24_2).f1), .int .u64 0]) ?_ 2 _ rfl; (with_reducible repeat (first | refine blk_drewN ?_ _ | refine blk_drew ?_ | refine blk_alloc ?_ _)); refine blk_put (cs := #[.string ((rd_T25 l0 x24_2).f0), .int .u64 0, .int .u64 0]) ?_ 1 _ rfl; (with_reducible repeat (first | refine blk_drewN ?_ _ | refine blk_drew ?_ | refine blk_alloc ?_ _)); refine blk_put (cs := #[.string (⟨#[]⟩ : ByteArray), .int .u64 0, .int .u64 0]) ?_ 0 _ rfl; (with_reducible repeat (first | refine blk_drewN ?_ _ | refine blk_drew ?_ | refine blk_alloc ?_ _)); exact BK301.out))⟩; have n4_ : Aside0 (Below w.heap.size w w23) := ⟨(by rw [hw]; exact (by repeat (first | (with_reducible first | exact HB.out | apply below_alloc | apply pw_below_drewN | apply below_drew1 | refine below_set ?_ GE301.out) | exact HB.out)))⟩; clear hw; clear HO_0; clear HO_3; clear HO_22; clear BK301; clear HB; have HO_0 := n0_; have HO_3 := n1_; have HO_22 := n2_; have BK301 := n3_; have HB := n4_; clear n0_ n1_ n2_ n3_ n4_; have hcz24_0 : w23.cell? ⟨gb301, 0, none⟩ = some (.string ((rd_T25 l0 x24_2).f0)) := (blk_cell BK301.out 0).trans rfl; have hcz24_1 : w23.cell? ⟨gb301, 1, none⟩ = some (.int .u64 ((rd_T25 l0 x24_2).f1)) := (blk_cell BK301.out 1).trans rfl; have hcz24_2 : w23.cell? ⟨gb301, 2, none⟩ = some (.int .u64 ((rd_T25 l0 x24_2).f2)) := (blk_cell BK301.out 2).trans rfl; have hfz24_0 := blk_frozen BK301.out 0; have hfz24_1 := blk_frozen BK301.out 1; have hfz24_2 := blk_frozen BK301.out 2; obtain ⟨Ao25, co25, eo25⟩ := Kd.V_slice HO_3.out; subst eo25) | ((with_reducible refine gate_callee (f := 10) rfl ?_); refine goesL_ (some 31) rfl rfl Try.func10 (by kernel_rfl) rfl #[.slice Ao25 x3_2.length co25, .agg #[.string ((rd_T25 l0 x24_2).f0), .int .u64 ((rd_T25 l0 x24_2).f1), .int .u64 ((rd_T25 l0 x24_2).f2)]] rfl (by (try simp only [List.map_toArray, List.map_cons, List.map_nil]); first | done | rfl | (simp only [List.length_drop, List.length_take]; rfl)) ?_; (with_reducible refine (heap_Push.calls k2 (fun k_ => ((P0_ k_ ∨ w.heap.size ≤ k_) ∧ k_ ≠ gb301)) _ _ x3_2 ((rd_T25 l0 x24_2).f0) ((rd_T25 l0 x24_2).f1) ((rd_T25 l0 x24_2).f2) t302 t305 _ ?side1 A13.out).mono ?_); (case side1 => exact HO_3.out); rintro e w26 ⟨v303, rfl, ho0, hb⟩; refine ⟨_, rfl, ?_⟩; have n0_ := Aside0.mk (Kd.V_below (by (with_reducible repeat (first | apply Kd.V_alloc | apply Kd.V_drewN | apply Kd.V_drew)); exact HO_0.out) hb); have n1_ := Aside0.mk (Kd.V_below (by (with_reducible repeat (first | apply Kd.V_alloc | apply Kd.V_drewN | apply Kd.V_drew)); exact HO_3.out) hb); have n2_ := Aside0.mk (Kd.V_below (by (with_reducible repeat (first | apply Kd.V_alloc | apply Kd.V_drewN | apply Kd.V_drew)); exact HO_22.out) hb); have n3_ := Aside0.mk (Kd.V_lower (Kd.V_mono (ok' := fun k_ => (P0_ k_ ∨ w.heap.size ≤ k_) ∧ k_ ≠ gb301) ho0 (fun k_ hk_ => ⟨Or.elim hk_ (fun hs_ => hs_.1) (fun hn_ => (.inr (Nat.le_trans (below_size (by repeat (first | (with_reducible first | exact HB.out | apply below_alloc | apply pw_below_drewN | apply below_drew1 | refine below_set ?_ GE301.out) | exact HB.out))) hn_))), Or.elim hk_ (fun hs_ => hs_.2) (fun hn_ => (Kd.freshB (g := gb301) (o := .cells #[.string ((rd_T25 l0 x24_2).f0), .int .u64 ((rd_T25 l0 x24_2).f1), .int .u64 ((rd_T25 l0 x24_2).f2)] 25 (0, 0)) (by (with_reducible repeat (first | refine blk_drewN ?_ _ | refine blk_drew ?_ | refine blk_alloc ?_ _)); exact BK301.out) k_ hn_))⟩)) (below_size (by repeat (first | (with_reducible first | exact HB.out | apply below_alloc | apply pw_below_drewN | apply below_drew1 | refine below_set ?_ GE301.out) | exact HB.out)))); have n4_ := Aside0.mk (blk_below (g := gb301) (o := .cells #[.string ((rd_T25 l0 x24_2).f0), .int .u64 ((rd_T25 l0 x24_2).f1), .int .u64 ((rd_T25 l0 x24_2).f2)] 25 (0, 0)) (by (with_reducible repeat (first | refine blk_drewN ?_ _ | refine blk_drew ?_ | refine blk_alloc ?_ _)); exact BK301.out) hb); have n5_ := Aside0.mk (below_step (by repeat (first | (with_reducible first | exact HB.out | apply below_alloc | apply pw_below_drewN | apply below_drew1 | refine below_set ?_ GE301.out) | exact HB.out)) hb); clear HO_0; clear HO_3; clear HO_22; clear BK301; clear HB; have HO_0 := n0_; have HO_3 := n1_; have HO_22 := n2_; have HO304 := n3_; have BK301 := n4_; have HB := n5_; clear n0_ n1_ n2_ n3_ n4_ n5_; (try clear hb); (try clear hb2); (try clear hk); (try clear hi); (try clear ho0)))
          go_ret
          exact ⟨by first | rfl | (simp [errW_none, errW_some] <;> rfl) | (simp [*, errW_none, errW_some] <;> rfl), by repeat (first | (with_reducible first | exact HB.out | apply below_alloc | apply pw_below_drewN | apply below_drew1 | refine below_set ?_ GE301.out) | exact HB.out)⟩
        ·
         rw [if_neg c12] at H
         exact absurd H (by simp)
       ·
        rw [if_neg c11] at H
        exact absurd H (by simp)
      ·
       rw [if_neg c10] at H
       have c10b0 : decide (x24_2 < (l0.length : Int)) = false := decide_eq_false c10
       clear c10
       replace H := Option.bind_eq_some_iff.mp H
       obtain ⟨t306, A270, H⟩ := H
       replace H : (if (t306.length : Int) = (l0.length : Int) then (samphirelaw11_HeapDown.l1 k2 t306 l0 t306 (t306.length : Int) 0) else (some false)) = some r := H
       have A27 := Aside0.mk A270
       clear A270
       by_cases c28 : (t306.length : Int) = (l0.length : Int)
       ·
        rw [if_pos c28] at H
        have c28b0 : ((t306.length : Int) == (l0.length : Int)) = true := beq_iff_eq.mpr c28
        have c28b1 : ((t306.length : Int) != (l0.length : Int)) = false := bne_eq_false_iff_eq.mpr c28
        have c28b2 : (t306.length == l0.length) = true := by first | simpa using c28 | (simp at c28 ⊢; omega)
        clear c28
        have H' := Aside0.mk H
        clear H
        obtain ⟨Ao29, co29, eo29⟩ := Kd.V_slice HO_3.out
        subst eo29
        go_wp2_with (first | ((with_reducible refine gate_callee (f := 26) rfl ?_); refine goesL_ (some 39) rfl rfl Try.func26 (by kernel_rfl) rfl #[.slice Ao29 x3_2.length co29] rfl (by (try simp only [List.map_toArray, List.map_cons, List.map_nil]); first | done | rfl | (simp only [List.length_drop, List.length_take]; rfl)) ?_; (with_reducible refine (heap_Down.calls k2 (fun k_ => (P0_ k_ ∨ w.heap.size ≤ k_)) _ _ x3_2 t306 _ ?side1 A27.out).mono ?_); (case side1 => exact HO_3.out); rintro e w30 ⟨v307, rfl, ho0, hb⟩; refine ⟨_, rfl, ?_⟩; have n0_ := Aside0.mk (Kd.V_elder' (by (with_reducible repeat (first | apply Kd.V_alloc | apply Kd.V_drewN | apply Kd.V_drew)); exact HO_0.out) (Kd.R_base ho0) hb); have n1_ := Aside0.mk (Kd.V_elder' (by (with_reducible repeat (first | apply Kd.V_alloc | apply Kd.V_drewN | apply Kd.V_drew)); exact HO_3.out) (Kd.R_base ho0) hb); have n2_ := Aside0.mk (Kd.V_elder' (by (with_reducible repeat (first | apply Kd.V_alloc | apply Kd.V_drewN | apply Kd.V_drew)); exact HO_22.out) (Kd.R_base ho0) hb); have n3_ := Aside0.mk (Kd.R_lower (Kd.R_newM (M := fun k_ => (w.heap.size ≤ k_)) (Kd.R_mono (ok' := fun k_ => True) ho0 (fun _ hk_ => trivial)) (below_size (by repeat (first | (with_reducible first | exact HB.out | apply below_alloc | apply pw_below_drewN | apply below_drew1) | exact HB.out))) (fun k_ h_ => h_)) (below_size (by repeat (first | (with_reducible first | exact HB.out | apply below_alloc | apply pw_below_drewN | apply below_drew1) | exact HB.out)))); have n4_ := Aside0.mk (below_step (by repeat (first | (with_reducible first | exact HB.out | apply below_alloc | apply pw_below_drewN | apply below_drew1) | exact HB.out)) hb); clear HO_0; clear HO_3; clear HO_22; clear HB; have HO_0 := n0_; have HO_3 := n1_; have HO_22 := n2_; have HO308 := n3_; have HB := n4_; clear n0_ n1_ n2_ n3_ n4_; (try clear hb); (try clear hb2); (try clear hk); (try clear hi); (try clear ho0); obtain ⟨Ao31, co31, eo31⟩ := Kd.R_slice HO308.out; subst eo31))
        go_loopg [9, 48] k2 (fun kq v9 v48 w' => ∃ (x9_3 : List (S25)) (x48_3 : Int), v48 = .int .i64 x48_3 ∧ Aside0 (samphirelaw11_HeapDown.l1 kq t306 x9_3 t306 (t306.length : Int) x48_3 = some r) ∧ Aside0 (kq ≤ k2) ∧ Aside0 (Kd.R k25 25 w' w.heap.size (fun k_ => (w.heap.size ≤ k_)) (.slice Ao31 t306.length co31) t306) ∧ Aside0 (Kd.V k25 25 w' w.heap.size (fun k_ => (P0_ k_ ∨ w.heap.size ≤ k_) ∧ some k_ ≠ ((.slice Ao31 t306.length co31) : Value).ownBlock ∧ some k_ ≠ ((.slice Ao31 t306.length co31) : Value).ownBlock) v9 x9_3) ∧ Aside0 (Kd.R k25 25 w' w.heap.size (fun k_ => (w.heap.size ≤ k_)) (.slice Ao31 t306.length co31) t306) ∧ Aside0 (Below w.heap.size w w'))
        case atStart => exact ⟨(l0), (0), (by first | rfl | (simp; done) | (simp [*]; done)), H', ⟨Nat.le_refl _⟩, ⟨by (with_reducible repeat (first | apply Kd.R_alloc | apply Kd.R_drewN | apply Kd.R_drew)); exact Kd.R_mono HO308.out (fun _ hk => hk.1)⟩, ⟨by (with_reducible repeat (first | apply Kd.V_alloc | apply Kd.V_drewN | apply Kd.V_drew)); exact Kd.V_mono HO_0.out (fun _ hk => ⟨hk.1, ⟨hk.2, hk.2⟩⟩)⟩, ⟨by (with_reducible repeat (first | apply Kd.R_alloc | apply Kd.R_drewN | apply Kd.R_drew)); exact Kd.R_mono HO308.out (fun _ hk => hk.1)⟩, ⟨by repeat (first | (with_reducible first | exact HB.out | apply below_alloc | apply pw_below_drewN | apply below_drew1) | exact HB.out)⟩⟩
        case round =>
         clear H'
         try clear c1
         try clear c2
         try clear p2
         try clear p3
         try clear q3
         try clear hx3
         try clear c4
         try clear c5
         try clear p6
         try clear c7
         try clear c8
         try clear c9
         try clear c10
         try clear c10b0
         try clear c11
         try clear c11b0
         try clear c12
         try clear c12b0
         try clear c14
         try clear c14b0
         try clear c14b1
         try clear c26
         try clear c28
         try clear c28b0
         try clear c28b1
         try clear c28b2
         try clear p30
         try clear q30
         try clear hx30
         try clear hcz16_0
         try clear hcz16_1
         try clear hcz16_2
         try clear hcz18_0
         try clear hcz18_1
         try clear hcz18_2
         try clear hcz22_0
         try clear hcz22_1
         try clear hcz22_2
         try clear hcz24_0
         try clear hcz24_1
         try clear hcz24_2
         try clear hfz16_0
         try clear hfz16_1
         try clear hfz16_2
         try clear hfz18_0
         try clear hfz18_1
         try clear hfz18_2
         try clear hfz22_0
         try clear hfz22_1
         try clear hfz22_2
         try clear hfz24_0
         try clear hfz24_1
         try clear hfz24_2
         try clear hx300_0
         try clear hx300_1
         try clear hx300_2
         try clear p2
         try clear p300
         try clear q300
         obtain ⟨x9_3, x48_3, rfl, HA, HK3, HO_8, HO_9, HO_46, HB⟩ := hrel
         cases gk with
         | zero => exact absurd HA.out (by simp [samphirelaw11_HeapDown.l1])
         | succ k3 =>
          have H := HA.out
          clear HA
          simp only [samphirelaw11_HeapDown.l1] at H
          by_cases c32 : x48_3 < (t306.length : Int)
          ·
           rw [if_pos c32] at H
           have c32b0 : decide (x48_3 < (t306.length : Int)) = true := decide_eq_true c32
           clear c32
           by_cases c33 : 0 ≤ x48_3
           ·
            rw [if_pos c33] at H
            have c33b0 : decide (0 ≤ x48_3) = true := decide_eq_true c33
            clear c33
            by_cases c34 : x48_3 < (t306.length : Int)
            ·
             rw [if_pos c34] at H
             have c34b0 : decide (x48_3 < (t306.length : Int)) = true := decide_eq_true c34
             clear c34
             have HC35 := Aside0.mk H
             clear H
             have p310 : 0 ≤ (x48_3 : Int) := of_decide_eq_true (by first | (with_reducible assumption) | assumption)
             have q310 : x48_3 < (t306.length : Int) := of_decide_eq_true (by first | (with_reducible assumption) | assumption)
             obtain ⟨ad310, e310, hx310_0, hx310_1, hx310_2⟩ := at_T25 (Kd.R_reads' HO_46.out).2.2 x48_3 p310 q310
             cases e310
             replace p310 := eq_true p310
             replace q310 := eq_true q310
             go_upto_region 19 with (first | ((with_reducible refine gate_dst (N := 11) rfl ?_); refine box_event ?hg (N := 11) ?hd (cs := #[.string (⟨#[]⟩ : ByteArray), .int .u64 0, .int .u64 0]) (t := 25) ?hr ?_; (case hd => rfl); (case hg => rfl); (case hr => first | (go_simp; done) | (go_simp; rfl)); intro gb311 hg w36 hbox hb; have n0_ := Aside0.mk (Kd.R_below (Kd.R_elderB (by (with_reducible repeat (first | apply Kd.R_alloc | apply Kd.R_drewN | apply Kd.R_drew)); exact HO_8.out) gb311 (Nat.le_of_eq hg.symm)) hb); have n1_ := Aside0.mk (Kd.V_below (Kd.V_elderB (by (with_reducible repeat (first | apply Kd.V_alloc | apply Kd.V_drewN | apply Kd.V_drew)); exact HO_9.out) gb311 (Nat.le_of_eq hg.symm)) hb); have n2_ := Aside0.mk (Kd.R_below (Kd.R_elderB (by (with_reducible repeat (first | apply Kd.R_alloc | apply Kd.R_drewN | apply Kd.R_drew)); exact HO_46.out) gb311 (Nat.le_of_eq hg.symm)) hb); have n3_ := Aside0.mk (below_step (by repeat (first | (with_reducible first | exact HB.out | apply below_alloc | apply pw_below_drewN | apply below_drew1) | exact HB.out)) hb); have n4_ := Aside0.mk (hbox); have n5_ := Aside0.mk ((by rw [hg]; exact (below_size (by repeat (first | (with_reducible first | exact HB.out | apply below_alloc | apply pw_below_drewN | apply below_drew1) | exact HB.out))) : w.heap.size ≤ gb311)); have n6_ := Aside0.mk ((by rw [hg]; exact (below_size (by repeat (first | (with_reducible first | exact HB.out | apply below_alloc | apply pw_below_drewN | apply below_drew1) | exact HB.out))) : w.heap.size ≤ gb311)); clear HO_8; clear HO_9; clear HO_46; clear HB; have HO_8 := n0_; have HO_9 := n1_; have HO_46 := n2_; have HB := n3_; have BK311 := n4_; have GW311 := n5_; have GE311 := n6_; clear n0_ n1_ n2_ n3_ n4_ n5_ n6_; clear hb hbox hg; have hcz37_0 : w36.cell? ⟨gb311, 0, none⟩ = some (.string (⟨#[]⟩ : ByteArray)) := (blk_cell BK311.out 0).trans rfl; have hcz37_1 : w36.cell? ⟨gb311, 1, none⟩ = some (.int .u64 0) := (blk_cell BK311.out 1).trans rfl; have hcz37_2 : w36.cell? ⟨gb311, 2, none⟩ = some (.int .u64 0) := (blk_cell BK311.out 2).trans rfl; have hfz37_0 := blk_frozen BK311.out 0; have hfz37_1 := blk_frozen BK311.out 1; have hfz37_2 := blk_frozen BK311.out 2))
             (try simp only [Act.put, List.setIfInBounds_toArray, List.set_cons_zero, List.set_cons_succ])
             go_cut [64] (fun v64 wc => ∃ (kq : Nat) (x64_34 : Bool), v64 = .bool x64_34 ∧ Aside0 (samphirelaw11_HeapDown.j3 kq t306 x9_3 t306 (t306.length : Int) x48_3 x64_34 ((rd_T25 t306 x48_3).f0) ((rd_T25 t306 x48_3).f1) ((rd_T25 t306 x48_3).f2) = some r) ∧ Aside0 (kq ≤ k3) ∧ Aside0 (Kd.R k25 25 wc w.heap.size (fun k_ => (w.heap.size ≤ k_) ∧ k_ ≠ gb311) (.slice (some ad310) t306.length co31) t306) ∧ Aside0 (Kd.V k25 25 wc w.heap.size (fun k_ => (P0_ k_ ∨ w.heap.size ≤ k_) ∧ some k_ ≠ ((.slice (some ad310) t306.length co31) : Value).ownBlock ∧ some k_ ≠ ((.slice (some ad310) t306.length co31) : Value).ownBlock ∧ k_ ≠ gb311) u9 x9_3) ∧ Aside0 (Kd.R k25 25 wc w.heap.size (fun k_ => (w.heap.size ≤ k_) ∧ k_ ≠ gb311) (.slice (some ad310) t306.length co31) t306) ∧ Aside0 (wc.heap[gb311]? = some (.cells #[.string ((rd_T25 t306 x48_3).f0), .int .u64 ((rd_T25 t306 x48_3).f1), .int .u64 ((rd_T25 t306 x48_3).f2)] 25 (0, 0))) ∧ Aside0 (Below w.heap.size w wc))
             case first =>
              have H := HC35.out
              clear HC35
              by_cases c38 : x48_3 > 0
              ·
               rw [if_pos c38] at H
               have c38b0 : decide (0 < x48_3) = true := decide_eq_true c38
               clear c38
               (first | rw [c38b0] | (simp only [i64_w, i32_w]; rw [c38b0]) | skip)
               obtain ⟨ji39, hji39⟩ : ∃ j_ : Int, (wrap64 (x48_3 - 1)) = j_ := ⟨_, rfl⟩
               replace H : (if 0 ≤ (ji39) then (if (ji39) < (t306.length : Int) then ((rank_Cmp.f k3 ((rd_T25 t306 (ji39)).f0) ((rd_T25 t306 (ji39)).f1) ((rd_T25 t306 (ji39)).f2) ((rd_T25 t306 x48_3).f0) ((rd_T25 t306 x48_3).f1) ((rd_T25 t306 x48_3).f2)).bind fun t313 => (samphirelaw11_HeapDown.j3 k3 t306 x9_3 t306 (t306.length : Int) x48_3 (decide (t313 < 0)) ((rd_T25 t306 x48_3).f0) ((rd_T25 t306 x48_3).f1) ((rd_T25 t306 x48_3).f2))) else (none)) else (none)) = some r := by first | (rw [hji39] at H; exact H) | (simp only [hji39] at H ⊢; exact H)
               have hji39w : (IntKind.i64.wrap (x48_3 - 1)) = ji39 := (i64_w _).trans hji39
               by_cases c40 : 0 ≤ (ji39)
               ·
                rw [if_pos c40] at H
                have c40b0 : decide (0 ≤ (ji39)) = true := decide_eq_true c40
                clear c40
                by_cases c41 : (ji39) < (t306.length : Int)
                ·
                 rw [if_pos c41] at H
                 have c41b0 : decide ((ji39) < (t306.length : Int)) = true := decide_eq_true c41
                 clear c41
                 replace H := Option.bind_eq_some_iff.mp H
                 obtain ⟨t313, A420, H⟩ := H
                 replace H : (samphirelaw11_HeapDown.j3 k3 t306 x9_3 t306 (t306.length : Int) x48_3 (decide (t313 < 0)) ((rd_T25 t306 x48_3).f0) ((rd_T25 t306 x48_3).f1) ((rd_T25 t306 x48_3).f2)) = some r := H
                 have A42 := Aside0.mk A420
                 clear A420
                 have H' := Aside0.mk H
                 clear H
                 try go_wp2
                 have n0_ : Aside0 (Kd.R k25 25 (((w36.setCell ⟨gb311, 0, none⟩ (.string ((rd_T25 t306 x48_3).f0))).setCell ⟨gb311, 1, none⟩ (.int .u64 ((rd_T25 t306 x48_3).f1))).setCell ⟨gb311, 2, none⟩ (.int .u64 ((rd_T25 t306 x48_3).f2))) w.heap.size (fun k_ => (w.heap.size ≤ k_) ∧ k_ ≠ gb311) (.slice (some ad310) t306.length co31) t306) := ⟨by (with_reducible repeat (first | apply Kd.R_alloc | apply Kd.R_drewN | apply Kd.R_drew)); exact Kd.R_mono (Kd.R_far (p := ⟨gb311, 2, none⟩) (Kd.R_far (p := ⟨gb311, 1, none⟩) (Kd.R_far (p := ⟨gb311, 0, none⟩) (Kd.R_mono HO_8.out (fun k_ hk => (⟨hk, hk.2⟩ : _ ∧ k_ ≠ gb311))) (fun _ hk => hk.2) (.string ((rd_T25 t306 x48_3).f0))) (fun _ hk => hk.2) (.int .u64 ((rd_T25 t306 x48_3).f1))) (fun _ hk => hk.2) (.int .u64 ((rd_T25 t306 x48_3).f2))) (fun _ hk => ⟨hk.1.1, hk.1.2⟩)⟩
                 have n1_ : Aside0 (Kd.V k25 25 (((w36.setCell ⟨gb311, 0, none⟩ (.string ((rd_T25 t306 x48_3).f0))).setCell ⟨gb311, 1, none⟩ (.int .u64 ((rd_T25 t306 x48_3).f1))).setCell ⟨gb311, 2, none⟩ (.int .u64 ((rd_T25 t306 x48_3).f2))) w.heap.size (fun k_ => (P0_ k_ ∨ w.heap.size ≤ k_) ∧ some k_ ≠ (.slice (some ad310) t306.length co31 : Value).ownBlock ∧ some k_ ≠ (.slice (some ad310) t306.length co31 : Value).ownBlock ∧ k_ ≠ gb311) u9 x9_3) := ⟨by (with_reducible repeat (first | apply Kd.V_alloc | apply Kd.V_drewN | apply Kd.V_drew)); exact Kd.V_mono (Kd.V_far (p := ⟨gb311, 2, none⟩) (Kd.V_far (p := ⟨gb311, 1, none⟩) (Kd.V_far (p := ⟨gb311, 0, none⟩) (Kd.V_mono HO_9.out (fun k_ hk => (⟨hk, hk.2⟩ : _ ∧ k_ ≠ gb311))) (fun _ hk => hk.2) (.string ((rd_T25 t306 x48_3).f0))) (fun _ hk => hk.2) (.int .u64 ((rd_T25 t306 x48_3).f1))) (fun _ hk => hk.2) (.int .u64 ((rd_T25 t306 x48_3).f2))) (fun _ hk => ⟨hk.1.1.1, ⟨hk.1.1.2.1, ⟨hk.1.1.2.2, hk.1.2⟩⟩⟩)⟩
                 have n2_ : Aside0 (Kd.R k25 25 (((w36.setCell ⟨gb311, 0, none⟩ (.string ((rd_T25 t306 x48_3).f0))).setCell ⟨gb311, 1, none⟩ (.int .u64 ((rd_T25 t306 x48_3).f1))).setCell ⟨gb311, 2, none⟩ (.int .u64 ((rd_T25 t306 x48_3).f2))) w.heap.size (fun k_ => (w.heap.size ≤ k_) ∧ k_ ≠ gb311) (.slice (some ad310) t306.length co31) t306) := ⟨by (with_reducible repeat (first | apply Kd.R_alloc | apply Kd.R_drewN | apply Kd.R_drew)); exact Kd.R_mono (Kd.R_far (p := ⟨gb311, 2, none⟩) (Kd.R_far (p := ⟨gb311, 1, none⟩) (Kd.R_far (p := ⟨gb311, 0, none⟩) (Kd.R_mono HO_46.out (fun k_ hk => (⟨hk, hk.2⟩ : _ ∧ k_ ≠ gb311))) (fun _ hk => hk.2) (.string ((rd_T25 t306 x48_3).f0))) (fun _ hk => hk.2) (.int .u64 ((rd_T25 t306 x48_3).f1))) (fun _ hk => hk.2) (.int .u64 ((rd_T25 t306 x48_3).f2))) (fun _ hk => ⟨hk.1.1, hk.1.2⟩)⟩
                 have n3_ : Aside0 ((((w36.setCell ⟨gb311, 0, none⟩ (.string ((rd_T25 t306 x48_3).f0))).setCell ⟨gb311, 1, none⟩ (.int .u64 ((rd_T25 t306 x48_3).f1))).setCell ⟨gb311, 2, none⟩ (.int .u64 ((rd_T25 t306 x48_3).f2))).heap[gb311]? = some (.cells #[.string ((rd_T25 t306 x48_3).f0), .int .u64 ((rd_T25 t306 x48_3).f1), .int .u64 ((rd_T25 t306 x48_3).f2)] 25 (0, 0))) := ⟨by (with_reducible repeat (first | refine blk_drewN ?_ _ | refine blk_drew ?_ | refine blk_alloc ?_ _)); refine blk_put (cs := #[.string ((rd_T25 t306 x48_3).f0), .int .u64 ((rd_T25 t306 x48_3).f1), .int .u64 0]) ?_ 2 _ rfl; (with_reducible repeat (first | refine blk_drewN ?_ _ | refine blk_drew ?_ | refine blk_alloc ?_ _)); refine blk_put (cs := #[.string ((rd_T25 t306 x48_3).f0), .int .u64 0, .int .u64 0]) ?_ 1 _ rfl; (with_reducible repeat (first | refine blk_drewN ?_ _ | refine blk_drew ?_ | refine blk_alloc ?_ _)); refine blk_put (cs := #[.string (⟨#[]⟩ : ByteArray), .int .u64 0, .int .u64 0]) ?_ 0 _ rfl; (with_reducible repeat (first | refine blk_drewN ?_ _ | refine blk_drew ?_ | refine blk_alloc ?_ _)); exact BK311.out⟩
                 have n4_ : Aside0 (Below w.heap.size w (((w36.setCell ⟨gb311, 0, none⟩ (.string ((rd_T25 t306 x48_3).f0))).setCell ⟨gb311, 1, none⟩ (.int .u64 ((rd_T25 t306 x48_3).f1))).setCell ⟨gb311, 2, none⟩ (.int .u64 ((rd_T25 t306 x48_3).f2)))) := ⟨by repeat (first | (with_reducible first | exact HB.out | apply below_alloc | apply pw_below_drewN | apply below_drew1 | refine below_set ?_ GE311.out) | exact HB.out)⟩
                 (try clear HO_8)
                 (try clear HO_9)
                 (try clear HO_46)
                 (try clear BK311)
                 (try clear HB)
                 generalize (((w36.setCell ⟨gb311, 0, none⟩ (.string ((rd_T25 t306 x48_3).f0))).setCell ⟨gb311, 1, none⟩ (.int .u64 ((rd_T25 t306 x48_3).f1))).setCell ⟨gb311, 2, none⟩ (.int .u64 ((rd_T25 t306 x48_3).f2))) = w43 at n0_ n1_ n2_ n3_ n4_ ⊢
                 have HO_8 := n0_
                 have HO_9 := n1_
                 have HO_46 := n2_
                 have BK311 := n3_
                 have HB := n4_
                 clear n0_ n1_ n2_ n3_ n4_
                 have n0_ := Aside0.mk (Kd.R_drew HO_8.out)
                 have n1_ := Aside0.mk (Kd.V_drew HO_9.out)
                 have n2_ := Aside0.mk (Kd.R_drew HO_46.out)
                 have n3_ := Aside0.mk (blk_drew BK311.out)
                 have n4_ := Aside0.mk (below_drew1 HB.out)
                 clear HO_8
                 clear HO_9
                 clear HO_46
                 clear BK311
                 clear HB
                 have HO_8 := n0_
                 have HO_9 := n1_
                 have HO_46 := n2_
                 have BK311 := n3_
                 have HB := n4_
                 clear n0_ n1_ n2_ n3_ n4_
                 have p312 : 0 ≤ ((ji39) : Int) := of_decide_eq_true (by first | (with_reducible assumption) | assumption)
                 have q312 : (ji39) < (t306.length : Int) := of_decide_eq_true (by first | (with_reducible assumption) | assumption)
                 obtain ⟨ad312, e312, hx312_0, hx312_1, hx312_2⟩ := at_T25 (Kd.R_reads' HO_8.out).2.2 (ji39) p312 q312
                 obtain rfl : ad310 = ad312 := (by injection e312)
                 replace p312 := eq_true p312
                 replace q312 := eq_true q312
                 refine start_ (n := 12) (S := fun w' => w'.cell? ⟨gb311, 0, none⟩ = some (.string ((rd_T25 t306 x48_3).f0)) ∧ w'.cell? ⟨gb311, 1, none⟩ = some (.int .u64 ((rd_T25 t306 x48_3).f1)) ∧ w'.cell? ⟨gb311, 2, none⟩ = some (.int .u64 ((rd_T25 t306 x48_3).f2)) ∧ w'.cell? (ad310.add (((ji39)).toNat * 3)) = some (.string ((rd_T25 t306 (ji39)).f0)) ∧ w'.cell? ⟨(ad310.add (((ji39)).toNat * 3)).block, (ad310.add (((ji39)).toNat * 3)).off + 1, none⟩ = some (.int .u64 ((rd_T25 t306 (ji39)).f1)) ∧ w'.cell? ⟨(ad310.add (((ji39)).toNat * 3)).block, (ad310.add (((ji39)).toNat * 3)).off + 2, none⟩ = some (.int .u64 ((rd_T25 t306 (ji39)).f2))) (ds := []) #[false, false, false, false, false, false, false, false, false, false, false, false] (by kernel_rfl) rfl rfl ⟨(blk_cell BK311.out 0).trans rfl, (blk_cell BK311.out 1).trans rfl, (blk_cell BK311.out 2).trans rfl, hx312_0, hx312_1, hx312_2⟩ (fun hHeld => ?_); refine with_tabW samphirelaw11_HeapDown.tab19 samphirelaw11_HeapDown.bits19 (fun HT_ HW_ => ?_)
                 generalize w43.drew = w44 at HO_8 HO_9 HO_46 BK311 HB hx312_0 hx312_1 hx312_2 hHeld ⊢
                 refine pure_ (i := 0) (N := some 53) (v := ?_) (a' := ?_) #[true, false, false, false, false, false, false, false, false, false, false, false] rfl rfl (any_of HT_.out (by kernel_rfl)) (fun _ _ _ h => h) (Or.inl ⟨by rfl, ?_⟩) ?_ ?_
                 rotate_left
                 ·
                  intro w'
                  go_simp
                  with_reducible rfl
                 rotate_left
                 ·
                  simp only [Act.put, List.setIfInBounds_toArray, List.set_cons_zero, List.set_cons_succ, i64_w, i32_w]
                  rfl
                 refine pure_ (i := 1) (N := some 54) (v := ?_) (a' := ?_) #[true, true, false, false, false, false, false, false, false, false, false, false] rfl rfl (any_of HT_.out (by kernel_rfl)) (fun _ _ _ h => h) (Or.inl ⟨by rfl, ?_⟩) ?_ ?_
                 rotate_left
                 ·
                  intro w'
                  go_simp
                  with_reducible rfl
                 rotate_left
                 ·
                  simp only [Act.put, List.setIfInBounds_toArray, List.set_cons_zero, List.set_cons_succ, i64_w, i32_w]
                  rfl
                 refine pure_ (i := 2) (N := some 55) (v := ?_) (a' := ?_) #[true, true, true, false, false, false, false, false, false, false, false, false] rfl rfl (any_of HT_.out (by kernel_rfl)) (fun _ _ _ h => h) (Or.inl ⟨by rfl, ?_⟩) ?_ ?_
                 rotate_left
                 ·
                  intro w'
                  go_simp
                  with_reducible rfl
                 rotate_left
                 ·
                  simp only [Act.put, List.setIfInBounds_toArray, List.set_cons_zero, List.set_cons_succ, i64_w, i32_w]
                  rfl
                 refine pure_ (i := 3) (N := some 56) (v := ?_) (a' := ?_) #[true, true, true, true, false, false, false, false, false, false, false, false] rfl rfl (any_of HT_.out (by kernel_rfl)) (fun _ _ _ h => h) (Or.inl ⟨by rfl, ?_⟩) ?_ ?_
                 rotate_left
                 ·
                  intro w'
                  go_simp
                  with_reducible rfl
                 rotate_left
                 ·
                  simp only [Act.put, List.setIfInBounds_toArray, List.set_cons_zero, List.set_cons_succ, i64_w, i32_w]
                  rfl
                 refine pure_ (i := 4) (N := some 57) (v := ?_) (a' := ?_) #[true, true, true, true, true, false, false, false, false, false, false, false] rfl rfl (any_of HT_.out (by kernel_rfl)) (fun _ _ _ h => h) (Or.inl ⟨by rfl, ?_⟩) ?_ ?_
                 rotate_left
                 ·
                  intro w'
                  go_simp
                  with_reducible rfl
                 rotate_left
                 ·
                  simp only [Act.put, List.setIfInBounds_toArray, List.set_cons_zero, List.set_cons_succ, i64_w, i32_w]
                  rfl
                 refine pure_ (i := 5) (N := some 58) (v := ?_) (a' := ?_) #[true, true, true, true, true, true, false, false, false, false, false, false] rfl rfl (any_of HT_.out (by kernel_rfl)) (fun _ _ _ h => h) (Or.inl ⟨by rfl, ?_⟩) ?_ ?_
                 rotate_left
                 ·
                  intro w'
                  go_simp
                  with_reducible rfl
                 rotate_left
                 ·
                  simp only [Act.put, List.setIfInBounds_toArray, List.set_cons_zero, List.set_cons_succ, i64_w, i32_w]
                  rfl
                 refine pure_ (i := 6) (N := some 59) (v := ?_) (a' := ?_) #[true, true, true, true, true, true, true, false, false, false, false, false] rfl rfl (any_of HT_.out (by kernel_rfl)) (fun _ _ _ h => h) (Or.inl ⟨by rfl, ?_⟩) ?_ ?_
                 rotate_left
                 ·
                  intro w'
                  go_simp
                  with_reducible rfl
                 rotate_left
                 ·
                  simp only [Act.put, List.setIfInBounds_toArray, List.set_cons_zero, List.set_cons_succ, i64_w, i32_w]
                  rfl
                 refine take_ (i := 7) (N := some 60) (v := ?_) (a' := ?_) #[true, true, true, true, true, true, true, true, false, false, false, false] rfl rfl (take_ofW HT_.out HW_.out (by kernel_rfl)) (fun _ _ _ h => h) (Or.inl ⟨by rfl, ?_⟩) hHeld ?_ ?_
                 rotate_left
                 ·
                  rintro w' ⟨s0, s1, s2, s3, s4, s5⟩
                  go_simp
                  with_reducible rfl
                 rotate_left
                 ·
                  simp only [Act.put, List.setIfInBounds_toArray, List.set_cons_zero, List.set_cons_succ, i64_w, i32_w]
                  rfl
                 refine take_ (i := 8) (N := some 61) (v := ?_) (a' := ?_) #[true, true, true, true, true, true, true, true, true, false, false, false] rfl rfl (take_ofW HT_.out HW_.out (by kernel_rfl)) (fun _ _ _ h => h) (Or.inl ⟨by rfl, ?_⟩) hHeld ?_ ?_
                 rotate_left
                 ·
                  rintro w' ⟨s0, s1, s2, s3, s4, s5⟩
                  go_simp
                  with_reducible rfl
                 rotate_left
                 ·
                  simp only [Act.put, List.setIfInBounds_toArray, List.set_cons_zero, List.set_cons_succ, i64_w, i32_w]
                  rfl
                 refine one_ (i := 9) (N := some 62) #[true, true, true, true, true, true, true, true, true, true, false, false] rfl rfl (one_of HT_.out (by kernel_rfl)) (by decide) (fun K hK => ?_)
                 refine goes_ Try.func23 (by kernel_rfl) rfl #[.agg #[.string ((rd_T25 t306 (ji39)).f0), .int .u64 ((rd_T25 t306 (ji39)).f1), .int .u64 ((rd_T25 t306 (ji39)).f2)], .agg #[.string ((rd_T25 t306 x48_3).f0), .int .u64 ((rd_T25 t306 x48_3).f1), .int .u64 ((rd_T25 t306 x48_3).f2)]] (by rfl) rfl rfl (by (try simp only [List.map_toArray, List.map_cons, List.map_nil]); first | done | (simp only [hji39]; rfl) | rfl | (simp only [List.length_drop, List.length_take]; rfl)) ?_
                 with_reducible refine (rank_Cmp.calls k3 ((rd_T25 t306 (ji39)).f0) ((rd_T25 t306 (ji39)).f1) ((rd_T25 t306 (ji39)).f2) ((rd_T25 t306 x48_3).f0) ((rd_T25 t306 x48_3).f1) ((rd_T25 t306 x48_3).f2) t313 _ A42.out).mono ?_
                 rintro e w45 ⟨rfl, hb⟩
                 have HS3_ := (hb.cell (World.block_lt_of_cell? _ _ (hHeld.2.2.2.1))).trans (hHeld.2.2.2.1)
                 have HS4_ := (hb.cell (World.block_lt_of_cell? _ _ (hHeld.2.2.2.2.1))).trans (hHeld.2.2.2.2.1)
                 have HS5_ := (hb.cell (World.block_lt_of_cell? _ _ (hHeld.2.2.2.2.2))).trans (hHeld.2.2.2.2.2)
                 refine ⟨_, rfl, ?_⟩
                 have n0_ := Aside0.mk (Kd.R_below (by (with_reducible repeat (first | apply Kd.R_alloc | apply Kd.R_drewN | apply Kd.R_drew)); exact HO_8.out) hb)
                 have n1_ := Aside0.mk (Kd.V_below (by (with_reducible repeat (first | apply Kd.V_alloc | apply Kd.V_drewN | apply Kd.V_drew)); exact HO_9.out) hb)
                 have n2_ := Aside0.mk (Kd.R_below (by (with_reducible repeat (first | apply Kd.R_alloc | apply Kd.R_drewN | apply Kd.R_drew)); exact HO_46.out) hb)
                 have n3_ := Aside0.mk (blk_below (g := gb311) (o := .cells #[.string ((rd_T25 t306 x48_3).f0), .int .u64 ((rd_T25 t306 x48_3).f1), .int .u64 ((rd_T25 t306 x48_3).f2)] 25 (0, 0)) (by (with_reducible repeat (first | refine blk_drewN ?_ _ | refine blk_drew ?_ | refine blk_alloc ?_ _)); exact BK311.out) hb)
                 have n4_ := Aside0.mk (below_step (by repeat (first | (with_reducible first | exact HB.out | apply below_alloc | apply pw_below_drewN | apply below_drew1 | refine below_set ?_ GE311.out) | exact HB.out)) hb)
                 clear HO_8
                 clear HO_9
                 clear HO_46
                 clear BK311
                 clear HB
                 have HO_8 := n0_
                 have HO_9 := n1_
                 have HO_46 := n2_
                 have BK311 := n3_
                 have HB := n4_
                 clear n0_ n1_ n2_ n3_ n4_
                 (try clear hb)
                 (try clear hb2)
                 (try clear hk)
                 (try clear hi)
                 refine hK.out _ _ ⟨(blk_cell BK311.out 0).trans rfl, (blk_cell BK311.out 1).trans rfl, (blk_cell BK311.out 2).trans rfl, HS3_, HS4_, HS5_⟩ (fun hHeld => ?_)
                 clear hK K
                 refine norm_ (a' := ?_) ?_ ?_
                 rotate_left
                 ·
                  show Act.put _ (some 62) _ = _
                  simp only [Act.put, List.setIfInBounds_toArray, List.set_cons_zero, List.set_cons_succ, i64_w, i32_w]
                  rfl
                 refine pure_ (i := 10) (N := some 63) (v := ?_) (a' := ?_) #[true, true, true, true, true, true, true, true, true, true, true, false] rfl rfl (any_of HT_.out (by kernel_rfl)) (fun _ _ _ h => h) (Or.inl ⟨by rfl, ?_⟩) ?_ ?_
                 rotate_left
                 ·
                  intro w'
                  go_simp
                  with_reducible rfl
                 rotate_left
                 ·
                  simp only [Act.put, List.setIfInBounds_toArray, List.set_cons_zero, List.set_cons_succ, i64_w, i32_w]
                  rfl
                 refine pure_ (i := 11) (N := some 64) (v := ?_) (a' := ?_) #[true, true, true, true, true, true, true, true, true, true, true, true] rfl rfl (any_of HT_.out (by kernel_rfl)) (fun _ _ _ h => h) (Or.inl ⟨by rfl, ?_⟩) ?_ ?_
                 rotate_left
                 ·
                  intro w'
                  go_simp
                  with_reducible rfl
                 rotate_left
                 ·
                  simp only [Act.put, List.setIfInBounds_toArray, List.set_cons_zero, List.set_cons_succ, i64_w, i32_w]
                  rfl
                 refine done_ (done_of HT_.out (by kernel_rfl)) ?_
                 try go_wp2
                 go_meet
                 case rel => exact ⟨_, (decide (t313 < 0)), (by first | rfl | (simp; done) | (simp [*]; done)), H', ⟨by have := HJ1.out; have := HK2.out; have := HK3.out; first | omega | exact Nat.le_refl _⟩, ⟨by (with_reducible repeat (first | apply Kd.R_alloc | apply Kd.R_drewN | apply Kd.R_drew)); exact HO_8.out⟩, ⟨by (with_reducible repeat (first | apply Kd.V_alloc | apply Kd.V_drewN | apply Kd.V_drew)); exact HO_9.out⟩, ⟨by (with_reducible repeat (first | apply Kd.R_alloc | apply Kd.R_drewN | apply Kd.R_drew)); exact HO_46.out⟩, ⟨by (with_reducible repeat (first | refine blk_drewN ?_ _ | refine blk_drew ?_ | refine blk_alloc ?_ _)); exact BK311.out⟩, ⟨by repeat (first | (with_reducible first | exact HB.out | apply below_alloc | apply pw_below_drewN | apply below_drew1 | refine below_set ?_ GE311.out) | exact HB.out)⟩⟩
                ·
                 rw [if_neg c41] at H
                 exact absurd H (by simp)
               ·
                rw [if_neg c40] at H
                exact absurd H (by simp)
              ·
               rw [if_neg c38] at H
               have c38b0 : decide (0 < x48_3) = false := decide_eq_false c38
               clear c38
               (first | rw [c38b0] | (simp only [i64_w, i32_w]; rw [c38b0]) | skip)
               have H' := Aside0.mk H
               clear H
               try go_wp2
               have n0_ : Aside0 (Kd.R k25 25 (((w36.setCell ⟨gb311, 0, none⟩ (.string ((rd_T25 t306 x48_3).f0))).setCell ⟨gb311, 1, none⟩ (.int .u64 ((rd_T25 t306 x48_3).f1))).setCell ⟨gb311, 2, none⟩ (.int .u64 ((rd_T25 t306 x48_3).f2))) w.heap.size (fun k_ => (w.heap.size ≤ k_) ∧ k_ ≠ gb311) (.slice (some ad310) t306.length co31) t306) := ⟨by (with_reducible repeat (first | apply Kd.R_alloc | apply Kd.R_drewN | apply Kd.R_drew)); exact Kd.R_mono (Kd.R_far (p := ⟨gb311, 2, none⟩) (Kd.R_far (p := ⟨gb311, 1, none⟩) (Kd.R_far (p := ⟨gb311, 0, none⟩) (Kd.R_mono HO_8.out (fun k_ hk => (⟨hk, hk.2⟩ : _ ∧ k_ ≠ gb311))) (fun _ hk => hk.2) (.string ((rd_T25 t306 x48_3).f0))) (fun _ hk => hk.2) (.int .u64 ((rd_T25 t306 x48_3).f1))) (fun _ hk => hk.2) (.int .u64 ((rd_T25 t306 x48_3).f2))) (fun _ hk => ⟨hk.1.1, hk.1.2⟩)⟩
               have n1_ : Aside0 (Kd.V k25 25 (((w36.setCell ⟨gb311, 0, none⟩ (.string ((rd_T25 t306 x48_3).f0))).setCell ⟨gb311, 1, none⟩ (.int .u64 ((rd_T25 t306 x48_3).f1))).setCell ⟨gb311, 2, none⟩ (.int .u64 ((rd_T25 t306 x48_3).f2))) w.heap.size (fun k_ => (P0_ k_ ∨ w.heap.size ≤ k_) ∧ some k_ ≠ (.slice (some ad310) t306.length co31 : Value).ownBlock ∧ some k_ ≠ (.slice (some ad310) t306.length co31 : Value).ownBlock ∧ k_ ≠ gb311) u9 x9_3) := ⟨by (with_reducible repeat (first | apply Kd.V_alloc | apply Kd.V_drewN | apply Kd.V_drew)); exact Kd.V_mono (Kd.V_far (p := ⟨gb311, 2, none⟩) (Kd.V_far (p := ⟨gb311, 1, none⟩) (Kd.V_far (p := ⟨gb311, 0, none⟩) (Kd.V_mono HO_9.out (fun k_ hk => (⟨hk, hk.2⟩ : _ ∧ k_ ≠ gb311))) (fun _ hk => hk.2) (.string ((rd_T25 t306 x48_3).f0))) (fun _ hk => hk.2) (.int .u64 ((rd_T25 t306 x48_3).f1))) (fun _ hk => hk.2) (.int .u64 ((rd_T25 t306 x48_3).f2))) (fun _ hk => ⟨hk.1.1.1, ⟨hk.1.1.2.1, ⟨hk.1.1.2.2, hk.1.2⟩⟩⟩)⟩
               have n2_ : Aside0 (Kd.R k25 25 (((w36.setCell ⟨gb311, 0, none⟩ (.string ((rd_T25 t306 x48_3).f0))).setCell ⟨gb311, 1, none⟩ (.int .u64 ((rd_T25 t306 x48_3).f1))).setCell ⟨gb311, 2, none⟩ (.int .u64 ((rd_T25 t306 x48_3).f2))) w.heap.size (fun k_ => (w.heap.size ≤ k_) ∧ k_ ≠ gb311) (.slice (some ad310) t306.length co31) t306) := ⟨by (with_reducible repeat (first | apply Kd.R_alloc | apply Kd.R_drewN | apply Kd.R_drew)); exact Kd.R_mono (Kd.R_far (p := ⟨gb311, 2, none⟩) (Kd.R_far (p := ⟨gb311, 1, none⟩) (Kd.R_far (p := ⟨gb311, 0, none⟩) (Kd.R_mono HO_46.out (fun k_ hk => (⟨hk, hk.2⟩ : _ ∧ k_ ≠ gb311))) (fun _ hk => hk.2) (.string ((rd_T25 t306 x48_3).f0))) (fun _ hk => hk.2) (.int .u64 ((rd_T25 t306 x48_3).f1))) (fun _ hk => hk.2) (.int .u64 ((rd_T25 t306 x48_3).f2))) (fun _ hk => ⟨hk.1.1, hk.1.2⟩)⟩
               have n3_ : Aside0 ((((w36.setCell ⟨gb311, 0, none⟩ (.string ((rd_T25 t306 x48_3).f0))).setCell ⟨gb311, 1, none⟩ (.int .u64 ((rd_T25 t306 x48_3).f1))).setCell ⟨gb311, 2, none⟩ (.int .u64 ((rd_T25 t306 x48_3).f2))).heap[gb311]? = some (.cells #[.string ((rd_T25 t306 x48_3).f0), .int .u64 ((rd_T25 t306 x48_3).f1), .int .u64 ((rd_T25 t306 x48_3).f2)] 25 (0, 0))) := ⟨by (with_reducible repeat (first | refine blk_drewN ?_ _ | refine blk_drew ?_ | refine blk_alloc ?_ _)); refine blk_put (cs := #[.string ((rd_T25 t306 x48_3).f0), .int .u64 ((rd_T25 t306 x48_3).f1), .int .u64 0]) ?_ 2 _ rfl; (with_reducible repeat (first | refine blk_drewN ?_ _ | refine blk_drew ?_ | refine blk_alloc ?_ _)); refine blk_put (cs := #[.string ((rd_T25 t306 x48_3).f0), .int .u64 0, .int .u64 0]) ?_ 1 _ rfl; (with_reducible repeat (first | refine blk_drewN ?_ _ | refine blk_drew ?_ | refine blk_alloc ?_ _)); refine blk_put (cs := #[.string (⟨#[]⟩ : ByteArray), .int .u64 0, .int .u64 0]) ?_ 0 _ rfl; (with_reducible repeat (first | refine blk_drewN ?_ _ | refine blk_drew ?_ | refine blk_alloc ?_ _)); exact BK311.out⟩
               have n4_ : Aside0 (Below w.heap.size w (((w36.setCell ⟨gb311, 0, none⟩ (.string ((rd_T25 t306 x48_3).f0))).setCell ⟨gb311, 1, none⟩ (.int .u64 ((rd_T25 t306 x48_3).f1))).setCell ⟨gb311, 2, none⟩ (.int .u64 ((rd_T25 t306 x48_3).f2)))) := ⟨by repeat (first | (with_reducible first | exact HB.out | apply below_alloc | apply pw_below_drewN | apply below_drew1 | refine below_set ?_ GE311.out) | exact HB.out)⟩
               (try clear HO_8)
               (try clear HO_9)
               (try clear HO_46)
               (try clear BK311)
               (try clear HB)
               generalize (((w36.setCell ⟨gb311, 0, none⟩ (.string ((rd_T25 t306 x48_3).f0))).setCell ⟨gb311, 1, none⟩ (.int .u64 ((rd_T25 t306 x48_3).f1))).setCell ⟨gb311, 2, none⟩ (.int .u64 ((rd_T25 t306 x48_3).f2))) = w46 at n0_ n1_ n2_ n3_ n4_ ⊢
               have HO_8 := n0_
               have HO_9 := n1_
               have HO_46 := n2_
               have BK311 := n3_
               have HB := n4_
               clear n0_ n1_ n2_ n3_ n4_
               have n0_ := Aside0.mk (Kd.R_drew HO_8.out)
               have n1_ := Aside0.mk (Kd.V_drew HO_9.out)
               have n2_ := Aside0.mk (Kd.R_drew HO_46.out)
               have n3_ := Aside0.mk (blk_drew BK311.out)
               have n4_ := Aside0.mk (below_drew1 HB.out)
               clear HO_8
               clear HO_9
               clear HO_46
               clear BK311
               clear HB
               have HO_8 := n0_
               have HO_9 := n1_
               have HO_46 := n2_
               have BK311 := n3_
               have HB := n4_
               clear n0_ n1_ n2_ n3_ n4_
               refine start_ (n := 12) (S := fun w' => True) (ds := []) #[false, false, false, false, false, false, false, false, false, false, false, false] (by kernel_rfl) rfl rfl trivial (fun hHeld => ?_); refine with_tabW samphirelaw11_HeapDown.tab19 samphirelaw11_HeapDown.bits19 (fun HT_ HW_ => ?_)
               generalize w46.drew = w47 at HO_8 HO_9 HO_46 BK311 HB hHeld ⊢
               refine pure_ (i := 0) (N := some 53) (v := ?_) (a' := ?_) #[true, false, false, false, false, false, false, false, false, false, false, false] rfl rfl (any_of HT_.out (by kernel_rfl)) (fun _ _ _ h => h) (Or.inl ⟨by rfl, ?_⟩) ?_ ?_
               rotate_left
               ·
                intro w'
                go_simp
                with_reducible rfl
               rotate_left
               ·
                simp only [Act.put, List.setIfInBounds_toArray, List.set_cons_zero, List.set_cons_succ, i64_w, i32_w]
                rfl
               refine pure_ (i := 1) (N := some 54) (v := ?_) (a' := ?_) #[true, true, false, false, false, false, false, false, false, false, false, false] rfl rfl (any_of HT_.out (by kernel_rfl)) (fun _ _ _ h => h) (Or.inl ⟨by rfl, ?_⟩) ?_ ?_
               rotate_left
               ·
                intro w'
                go_simp
                with_reducible rfl
               rotate_left
               ·
                simp only [Act.put, List.setIfInBounds_toArray, List.set_cons_zero, List.set_cons_succ, i64_w, i32_w]
                rfl
               refine pure_ (i := 2) (N := some 55) (v := ?_) (a' := ?_) #[true, true, true, false, false, false, false, false, false, false, false, false] rfl rfl (any_of HT_.out (by kernel_rfl)) (fun _ _ _ h => h) (Or.inl ⟨by rfl, ?_⟩) ?_ ?_
               rotate_left
               ·
                intro w'
                go_simp
                with_reducible rfl
               rotate_left
               ·
                simp only [Act.put, List.setIfInBounds_toArray, List.set_cons_zero, List.set_cons_succ, i64_w, i32_w]
                rfl
               refine pure_ (i := 3) (N := some 56) (v := undef) (a' := ?_) #[true, true, true, true, false, false, false, false, false, false, false, false] rfl rfl (any_of HT_.out (by kernel_rfl)) (fun _ _ _ h => h) (Or.inr ⟨by rfl, rfl⟩) ?_ ?_
               rotate_left
               ·
                simp only [Act.put, List.setIfInBounds_toArray, List.set_cons_zero, List.set_cons_succ, i64_w, i32_w]
                rfl
               refine pure_ (i := 4) (N := some 57) (v := undef) (a' := ?_) #[true, true, true, true, true, false, false, false, false, false, false, false] rfl rfl (any_of HT_.out (by kernel_rfl)) (fun _ _ _ h => h) (Or.inr ⟨by rfl, rfl⟩) ?_ ?_
               rotate_left
               ·
                simp only [Act.put, List.setIfInBounds_toArray, List.set_cons_zero, List.set_cons_succ, i64_w, i32_w]
                rfl
               refine pure_ (i := 5) (N := some 58) (v := undef) (a' := ?_) #[true, true, true, true, true, true, false, false, false, false, false, false] rfl rfl (any_of HT_.out (by kernel_rfl)) (fun _ _ _ h => h) (Or.inr ⟨by rfl, rfl⟩) ?_ ?_
               rotate_left
               ·
                simp only [Act.put, List.setIfInBounds_toArray, List.set_cons_zero, List.set_cons_succ, i64_w, i32_w]
                rfl
               refine pure_ (i := 6) (N := some 59) (v := undef) (a' := ?_) #[true, true, true, true, true, true, true, false, false, false, false, false] rfl rfl (any_of HT_.out (by kernel_rfl)) (fun _ _ _ h => h) (Or.inr ⟨by rfl, rfl⟩) ?_ ?_
               rotate_left
               ·
                simp only [Act.put, List.setIfInBounds_toArray, List.set_cons_zero, List.set_cons_succ, i64_w, i32_w]
                rfl
               refine pure_ (i := 7) (N := some 60) (v := undef) (a' := ?_) #[true, true, true, true, true, true, true, true, false, false, false, false] rfl rfl (any_of HT_.out (by kernel_rfl)) (fun _ _ _ h => h) (Or.inr ⟨by rfl, rfl⟩) ?_ ?_
               rotate_left
               ·
                simp only [Act.put, List.setIfInBounds_toArray, List.set_cons_zero, List.set_cons_succ, i64_w, i32_w]
                rfl
               refine pure_ (i := 8) (N := some 61) (v := undef) (a' := ?_) #[true, true, true, true, true, true, true, true, true, false, false, false] rfl rfl (any_of HT_.out (by kernel_rfl)) (fun _ _ _ h => h) (Or.inr ⟨by rfl, rfl⟩) ?_ ?_
               rotate_left
               ·
                simp only [Act.put, List.setIfInBounds_toArray, List.set_cons_zero, List.set_cons_succ, i64_w, i32_w]
                rfl
               refine pure_ (i := 9) (N := some 62) (v := undef) (a' := ?_) #[true, true, true, true, true, true, true, true, true, true, false, false] rfl rfl (any_of HT_.out (by kernel_rfl)) (fun _ _ _ h => h) (Or.inr ⟨by rfl, rfl⟩) ?_ ?_
               rotate_left
               ·
                simp only [Act.put, List.setIfInBounds_toArray, List.set_cons_zero, List.set_cons_succ, i64_w, i32_w]
                rfl
               refine pure_ (i := 10) (N := some 63) (v := undef) (a' := ?_) #[true, true, true, true, true, true, true, true, true, true, true, false] rfl rfl (any_of HT_.out (by kernel_rfl)) (fun _ _ _ h => h) (Or.inr ⟨by rfl, rfl⟩) ?_ ?_
               rotate_left
               ·
                simp only [Act.put, List.setIfInBounds_toArray, List.set_cons_zero, List.set_cons_succ, i64_w, i32_w]
                rfl
               refine pure_ (i := 11) (N := some 64) (v := ?_) (a' := ?_) #[true, true, true, true, true, true, true, true, true, true, true, true] rfl rfl (any_of HT_.out (by kernel_rfl)) (fun _ _ _ h => h) (Or.inl ⟨by rfl, ?_⟩) ?_ ?_
               rotate_left
               ·
                intro w'
                go_simp
                with_reducible rfl
               rotate_left
               ·
                simp only [Act.put, List.setIfInBounds_toArray, List.set_cons_zero, List.set_cons_succ, i64_w, i32_w]
                rfl
               refine done_ (done_of HT_.out (by kernel_rfl)) ?_
               try go_wp2
               go_meet
               case rel => exact ⟨_, (false), (by first | rfl | (simp; done) | (simp [*]; done)), H', ⟨by have := HJ1.out; have := HK2.out; have := HK3.out; first | omega | exact Nat.le_refl _⟩, ⟨by (with_reducible repeat (first | apply Kd.R_alloc | apply Kd.R_drewN | apply Kd.R_drew)); exact HO_8.out⟩, ⟨by (with_reducible repeat (first | apply Kd.V_alloc | apply Kd.V_drewN | apply Kd.V_drew)); exact HO_9.out⟩, ⟨by (with_reducible repeat (first | apply Kd.R_alloc | apply Kd.R_drewN | apply Kd.R_drew)); exact HO_46.out⟩, ⟨by (with_reducible repeat (first | refine blk_drewN ?_ _ | refine blk_drew ?_ | refine blk_alloc ?_ _)); exact BK311.out⟩, ⟨by repeat (first | (with_reducible first | exact HB.out | apply below_alloc | apply pw_below_drewN | apply below_drew1 | refine below_set ?_ GE311.out) | exact HB.out)⟩⟩
             case rest =>
              clear HC35
              try clear c1
              try clear c2
              try clear p2
              try clear c3
              try clear p3
              try clear q3
              try clear hx3
              try clear c4
              try clear c5
              try clear p6
              try clear c7
              try clear c8
              try clear c9
              try clear c10
              try clear c10b0
              try clear c11
              try clear c11b0
              try clear c12
              try clear c12b0
              try clear c14
              try clear c14b0
              try clear c14b1
              try clear c23
              try clear c26
              try clear c28
              try clear c28b0
              try clear c28b1
              try clear c28b2
              try clear p30
              try clear q30
              try clear hx30
              try clear p31
              try clear q31
              try clear hx31
              try clear c32
              try clear c32b0
              try clear c33
              try clear c33b0
              try clear c34
              try clear c34b0
              try clear c38
              try clear c38b0
              try clear c40
              try clear c40b0
              try clear c41
              try clear c41b0
              try clear hcz16_0
              try clear hcz16_1
              try clear hcz16_2
              try clear hcz18_0
              try clear hcz18_1
              try clear hcz18_2
              try clear hcz22_0
              try clear hcz22_1
              try clear hcz22_2
              try clear hcz24_0
              try clear hcz24_1
              try clear hcz24_2
              try clear hcz37_0
              try clear hcz37_1
              try clear hcz37_2
              try clear hfz16_0
              try clear hfz16_1
              try clear hfz16_2
              try clear hfz18_0
              try clear hfz18_1
              try clear hfz18_2
              try clear hfz22_0
              try clear hfz22_1
              try clear hfz22_2
              try clear hfz24_0
              try clear hfz24_1
              try clear hfz24_2
              try clear hfz37_0
              try clear hfz37_1
              try clear hfz37_2
              try clear hx300_0
              try clear hx300_1
              try clear hx300_2
              try clear hx310_0
              try clear hx310_1
              try clear hx310_2
              try clear hx312_0
              try clear hx312_1
              try clear hx312_2
              try clear p2
              try clear p3
              try clear p30
              try clear p300
              try clear p310
              try clear p312
              try clear p6
              try clear q3
              try clear q30
              try clear q300
              try clear q310
              try clear q312
              obtain ⟨kq, x64_34, rfl, HA, HJ34, HO_8, HO_9, HO_46, BK311, HB⟩ := hcut
              cases kq with
              | zero => exact absurd HA.out (by simp [samphirelaw11_HeapDown.j3])
              | succ kj34 =>
               have H := HA.out
               clear HA
               simp only [samphirelaw11_HeapDown.j3] at H
               by_cases c48 : x64_34 = true
               ·
                subst c48
                have H1 : (some false) = some r := by rw [if_pos rfl] at H; exact H
                clear H
                have H := H1
                clear H1
                obtain rfl := Option.some.inj H
                go_wp2
                go_ret
                exact ⟨by first | rfl | (simp [errW_none, errW_some] <;> rfl) | (simp [*, errW_none, errW_some] <;> rfl), by repeat (first | (with_reducible first | exact HB.out | apply below_alloc | apply pw_below_drewN | apply below_drew1 | refine below_set ?_ GE311.out) | exact HB.out)⟩
               ·
                replace c48 := Bool.eq_false_iff.mpr c48
                subst c48
                have H1 : ((samphirelaw11_without.f kj34 x9_3 ((rd_T25 t306 x48_3).f0) ((rd_T25 t306 x48_3).f1) ((rd_T25 t306 x48_3).f2)).bind fun t314 => (if (t314.length : Int) = (wrap64 ((x9_3.length : Int) - 1)) then (samphirelaw11_HeapDown.l1 kj34 t306 t314 t306 (t306.length : Int) (wrap64 (x48_3 + 1))) else (some false))) = some r := by rw [if_neg (show ¬ (false = true) by decide)] at H; exact H
                clear H
                have H := H1
                clear H1
                replace H := Option.bind_eq_some_iff.mp H
                obtain ⟨t314, A490, H⟩ := H
                replace H : (if (t314.length : Int) = (wrap64 ((x9_3.length : Int) - 1)) then (samphirelaw11_HeapDown.l1 kj34 t306 t314 t306 (t306.length : Int) (wrap64 (x48_3 + 1))) else (some false)) = some r := H
                have A49 := Aside0.mk A490
                clear A490
                by_cases c50 : (t314.length : Int) = (wrap64 ((x9_3.length : Int) - 1))
                ·
                 rw [if_pos c50] at H
                 have c50b0 : ((t314.length : Int) == (wrap64 ((x9_3.length : Int) - 1))) = true := beq_iff_eq.mpr c50
                 have c50b1 : ((t314.length : Int) != (wrap64 ((x9_3.length : Int) - 1))) = false := bne_eq_false_iff_eq.mpr c50
                 clear c50
                 have H' := Aside0.mk H
                 clear H
                 have hcz51_0 : wc.cell? ⟨gb311, 0, none⟩ = some (.string ((rd_T25 t306 x48_3).f0)) := (blk_cell BK311.out 0).trans rfl
                 have hcz51_1 : wc.cell? ⟨gb311, 1, none⟩ = some (.int .u64 ((rd_T25 t306 x48_3).f1)) := (blk_cell BK311.out 1).trans rfl
                 have hcz51_2 : wc.cell? ⟨gb311, 2, none⟩ = some (.int .u64 ((rd_T25 t306 x48_3).f2)) := (blk_cell BK311.out 2).trans rfl
                 have hfz51_0 := blk_frozen BK311.out 0
                 have hfz51_1 := blk_frozen BK311.out 1
                 have hfz51_2 := blk_frozen BK311.out 2
                 obtain ⟨Ao52, co52, eo52⟩ := Kd.V_slice HO_9.out
                 subst eo52
                 go_wp2_with (first | ((with_reducible refine gate_callee (f := 22) rfl ?_); refine goesL_ (some 67) rfl rfl Try.func22 (by kernel_rfl) rfl #[.slice Ao52 x9_3.length co52, .agg #[.string ((rd_T25 t306 x48_3).f0), .int .u64 ((rd_T25 t306 x48_3).f1), .int .u64 ((rd_T25 t306 x48_3).f2)]] rfl (by (try simp only [List.map_toArray, List.map_cons, List.map_nil]); first | done | rfl | (simp only [List.length_drop, List.length_take]; rfl)) ?_; (with_reducible refine (samphirelaw11_without.calls kj34 _ _ x9_3 ((rd_T25 t306 x48_3).f0) ((rd_T25 t306 x48_3).f1) ((rd_T25 t306 x48_3).f2) t314 _ ?side1 ?side2 A49.out).mono ?_); (case side1 => repeat (first | exact (Kd.V_reads' HO_9.out).2.2 | (with_reducible refine Kd.C_alloc ?_ _) | (with_reducible refine Kd.C_drewN ?_ _) | (with_reducible refine Kd.C_drew ?_))); (case side2 => exact (Kd.V_reads' HO_9.out).2.1); rintro e w53 ⟨v315, rfl, ho0, hb⟩; refine ⟨_, rfl, ?_⟩; have n0_ := Aside0.mk (Kd.R_elder' (by (with_reducible repeat (first | apply Kd.R_alloc | apply Kd.R_drewN | apply Kd.R_drew)); exact HO_8.out) (Kd.R_base ho0) hb); have n1_ := Aside0.mk (Kd.V_elder' (by (with_reducible repeat (first | apply Kd.V_alloc | apply Kd.V_drewN | apply Kd.V_drew)); exact HO_9.out) (Kd.R_base ho0) hb); have n2_ := Aside0.mk (Kd.R_elder' (by (with_reducible repeat (first | apply Kd.R_alloc | apply Kd.R_drewN | apply Kd.R_drew)); exact HO_46.out) (Kd.R_base ho0) hb); have n3_ := Aside0.mk (Kd.R_lower (Kd.R_newB (Kd.R_new' (Kd.R_new' (Kd.R_newM (M := fun k_ => (w.heap.size ≤ k_)) ho0 (below_size (by repeat (first | (with_reducible first | exact HB.out | apply below_alloc | apply pw_below_drewN | apply below_drew1 | refine below_set ?_ GE311.out) | exact HB.out))) (fun k_ h_ => h_)) (Kd.R_lt (by (with_reducible repeat (first | apply Kd.R_alloc | apply Kd.R_drewN | apply Kd.R_drew)); exact HO_8.out))) (Kd.R_lt (by (with_reducible repeat (first | apply Kd.R_alloc | apply Kd.R_drewN | apply Kd.R_drew)); exact HO_46.out))) (g := gb311) (o := .cells #[.string ((rd_T25 t306 x48_3).f0), .int .u64 ((rd_T25 t306 x48_3).f1), .int .u64 ((rd_T25 t306 x48_3).f2)] 25 (0, 0)) (by (with_reducible repeat (first | refine blk_drewN ?_ _ | refine blk_drew ?_ | refine blk_alloc ?_ _)); exact BK311.out)) (below_size (by repeat (first | (with_reducible first | exact HB.out | apply below_alloc | apply pw_below_drewN | apply below_drew1 | refine below_set ?_ GE311.out) | exact HB.out)))); have n4_ := Aside0.mk (blk_below (g := gb311) (o := .cells #[.string ((rd_T25 t306 x48_3).f0), .int .u64 ((rd_T25 t306 x48_3).f1), .int .u64 ((rd_T25 t306 x48_3).f2)] 25 (0, 0)) (by (with_reducible repeat (first | refine blk_drewN ?_ _ | refine blk_drew ?_ | refine blk_alloc ?_ _)); exact BK311.out) hb); have n5_ := Aside0.mk (below_step (by repeat (first | (with_reducible first | exact HB.out | apply below_alloc | apply pw_below_drewN | apply below_drew1 | refine below_set ?_ GE311.out) | exact HB.out)) hb); clear HO_8; clear HO_9; clear HO_46; clear BK311; clear HB; have HO_8 := n0_; have HO_9 := n1_; have HO_46 := n2_; have HO316 := n3_; have BK311 := n4_; have HB := n5_; clear n0_ n1_ n2_ n3_ n4_ n5_; (try clear hb); (try clear hb2); (try clear hk); (try clear hi); (try clear ho0); obtain ⟨Ao54, co54, eo54⟩ := Kd.R_slice HO316.out; subst eo54))
                 go_roundg kj34
                 case measure => have := HJ1.out; have := HK2.out; have := HK3.out; have := HJ34.out; omega
                 case rel => exact ⟨(t314), (wrap64 (x48_3 + 1)), (by first | rfl | (simp; done) | (simp [*]; done)), H', ⟨by have := HJ1.out; have := HK2.out; have := HK3.out; have := HJ34.out; omega⟩, ⟨by (with_reducible repeat (first | apply Kd.R_alloc | apply Kd.R_drewN | apply Kd.R_drew)); exact Kd.R_mono HO_8.out (fun _ hk => hk.1.1)⟩, ⟨Kd.V_mono (Kd.R_V (by (with_reducible repeat (first | apply Kd.R_alloc | apply Kd.R_drewN | apply Kd.R_drew)); exact Kd.R_mono (ok' := fun k_ => w.heap.size ≤ k_ ∧ some k_ ≠ ((.slice (some ad310) t306.length co31) : Value).ownBlock ∧ some k_ ≠ ((.slice (some ad310) t306.length co31) : Value).ownBlock) HO316.out (fun _ hk => ⟨hk.1.1.1.1, ⟨hk.1.1.2, hk.1.2⟩⟩))) (fun k_ hk => by first | exact ⟨(.inr (hk.1)), hk.2⟩ | exact (.inr (hk)))⟩, ⟨by (with_reducible repeat (first | apply Kd.R_alloc | apply Kd.R_drewN | apply Kd.R_drew)); exact Kd.R_mono HO_46.out (fun _ hk => hk.1.1)⟩, ⟨by repeat (first | (with_reducible first | exact HB.out | apply below_alloc | apply pw_below_drewN | apply below_drew1 | refine below_set ?_ GE311.out) | exact HB.out)⟩⟩
                ·
                 rw [if_neg c50] at H
                 have c50b0 : ((t314.length : Int) == (wrap64 ((x9_3.length : Int) - 1))) = false := beq_eq_false_iff_ne.mpr c50
                 have c50b1 : ((t314.length : Int) != (wrap64 ((x9_3.length : Int) - 1))) = true := bne_iff_ne.mpr c50
                 obtain rfl := Option.some.inj H
                 have hcz55_0 : wc.cell? ⟨gb311, 0, none⟩ = some (.string ((rd_T25 t306 x48_3).f0)) := (blk_cell BK311.out 0).trans rfl
                 have hcz55_1 : wc.cell? ⟨gb311, 1, none⟩ = some (.int .u64 ((rd_T25 t306 x48_3).f1)) := (blk_cell BK311.out 1).trans rfl
                 have hcz55_2 : wc.cell? ⟨gb311, 2, none⟩ = some (.int .u64 ((rd_T25 t306 x48_3).f2)) := (blk_cell BK311.out 2).trans rfl
                 have hfz55_0 := blk_frozen BK311.out 0
                 have hfz55_1 := blk_frozen BK311.out 1
                 have hfz55_2 := blk_frozen BK311.out 2
                 obtain ⟨Ao56, co56, eo56⟩ := Kd.V_slice HO_9.out
                 subst eo56
                 go_wp2_with (first | ((with_reducible refine gate_callee (f := 22) rfl ?_); refine goesL_ (some 67) rfl rfl Try.func22 (by kernel_rfl) rfl #[.slice Ao56 x9_3.length co56, .agg #[.string ((rd_T25 t306 x48_3).f0), .int .u64 ((rd_T25 t306 x48_3).f1), .int .u64 ((rd_T25 t306 x48_3).f2)]] rfl (by (try simp only [List.map_toArray, List.map_cons, List.map_nil]); first | done | rfl | (simp only [List.length_drop, List.length_take]; rfl)) ?_; (with_reducible refine (samphirelaw11_without.calls kj34 _ _ x9_3 ((rd_T25 t306 x48_3).f0) ((rd_T25 t306 x48_3).f1) ((rd_T25 t306 x48_3).f2) t314 _ ?side1 ?side2 A49.out).mono ?_); (case side1 => repeat (first | exact (Kd.V_reads' HO_9.out).2.2 | (with_reducible refine Kd.C_alloc ?_ _) | (with_reducible refine Kd.C_drewN ?_ _) | (with_reducible refine Kd.C_drew ?_))); (case side2 => exact (Kd.V_reads' HO_9.out).2.1); rintro e w57 ⟨v315, rfl, ho0, hb⟩; refine ⟨_, rfl, ?_⟩; have n0_ := Aside0.mk (Kd.R_elder' (by (with_reducible repeat (first | apply Kd.R_alloc | apply Kd.R_drewN | apply Kd.R_drew)); exact HO_8.out) (Kd.R_base ho0) hb); have n1_ := Aside0.mk (Kd.V_elder' (by (with_reducible repeat (first | apply Kd.V_alloc | apply Kd.V_drewN | apply Kd.V_drew)); exact HO_9.out) (Kd.R_base ho0) hb); have n2_ := Aside0.mk (Kd.R_elder' (by (with_reducible repeat (first | apply Kd.R_alloc | apply Kd.R_drewN | apply Kd.R_drew)); exact HO_46.out) (Kd.R_base ho0) hb); have n3_ := Aside0.mk (Kd.R_lower (Kd.R_newB (Kd.R_new' (Kd.R_new' (Kd.R_newM (M := fun k_ => (w.heap.size ≤ k_)) ho0 (below_size (by repeat (first | (with_reducible first | exact HB.out | apply below_alloc | apply pw_below_drewN | apply below_drew1 | refine below_set ?_ GE311.out) | exact HB.out))) (fun k_ h_ => h_)) (Kd.R_lt (by (with_reducible repeat (first | apply Kd.R_alloc | apply Kd.R_drewN | apply Kd.R_drew)); exact HO_8.out))) (Kd.R_lt (by (with_reducible repeat (first | apply Kd.R_alloc | apply Kd.R_drewN | apply Kd.R_drew)); exact HO_46.out))) (g := gb311) (o := .cells #[.string ((rd_T25 t306 x48_3).f0), .int .u64 ((rd_T25 t306 x48_3).f1), .int .u64 ((rd_T25 t306 x48_3).f2)] 25 (0, 0)) (by (with_reducible repeat (first | refine blk_drewN ?_ _ | refine blk_drew ?_ | refine blk_alloc ?_ _)); exact BK311.out)) (below_size (by repeat (first | (with_reducible first | exact HB.out | apply below_alloc | apply pw_below_drewN | apply below_drew1 | refine below_set ?_ GE311.out) | exact HB.out)))); have n4_ := Aside0.mk (blk_below (g := gb311) (o := .cells #[.string ((rd_T25 t306 x48_3).f0), .int .u64 ((rd_T25 t306 x48_3).f1), .int .u64 ((rd_T25 t306 x48_3).f2)] 25 (0, 0)) (by (with_reducible repeat (first | refine blk_drewN ?_ _ | refine blk_drew ?_ | refine blk_alloc ?_ _)); exact BK311.out) hb); have n5_ := Aside0.mk (below_step (by repeat (first | (with_reducible first | exact HB.out | apply below_alloc | apply pw_below_drewN | apply below_drew1 | refine below_set ?_ GE311.out) | exact HB.out)) hb); clear HO_8; clear HO_9; clear HO_46; clear BK311; clear HB; have HO_8 := n0_; have HO_9 := n1_; have HO_46 := n2_; have HO316 := n3_; have BK311 := n4_; have HB := n5_; clear n0_ n1_ n2_ n3_ n4_ n5_; (try clear hb); (try clear hb2); (try clear hk); (try clear hi); (try clear ho0); obtain ⟨Ao58, co58, eo58⟩ := Kd.R_slice HO316.out; subst eo58))
                 go_ret
                 exact ⟨by first | rfl | (simp [errW_none, errW_some] <;> rfl) | (simp [*, errW_none, errW_some] <;> rfl), by repeat (first | (with_reducible first | exact HB.out | apply below_alloc | apply pw_below_drewN | apply below_drew1 | refine below_set ?_ GE311.out) | exact HB.out)⟩
            ·
             rw [if_neg c34] at H
             exact absurd H (by simp)
           ·
            rw [if_neg c33] at H
            exact absurd H (by simp)
          ·
           rw [if_neg c32] at H
           have c32b0 : decide (x48_3 < (t306.length : Int)) = false := decide_eq_false c32
           clear c32
           replace H := Option.bind_eq_some_iff.mp H
           obtain ⟨t309, A590, H⟩ := H
           replace H : (some t309) = some r := H
           have A59 := Aside0.mk A590
           clear A590
           obtain rfl := Option.some.inj H
           go_wp2_with (first | ((with_reducible refine gate_callee (f := 9) rfl ?_); refine goesL_ (some 76) rfl rfl Try.func9 (by kernel_rfl) rfl #[] rfl (by (try simp only [List.map_toArray, List.map_cons, List.map_nil]); first | done | rfl | (simp only [List.length_drop, List.length_take]; rfl)) ?_; (with_reducible refine (samphirelaw11_awake.calls k3  t309 _ A59.out).mono ?_); rintro e w60 ⟨rfl, hb⟩; refine ⟨_, rfl, ?_⟩; have n0_ := Aside0.mk (Kd.R_below (by (with_reducible repeat (first | apply Kd.R_alloc | apply Kd.R_drewN | apply Kd.R_drew)); exact HO_8.out) hb); have n1_ := Aside0.mk (Kd.V_below (by (with_reducible repeat (first | apply Kd.V_alloc | apply Kd.V_drewN | apply Kd.V_drew)); exact HO_9.out) hb); have n2_ := Aside0.mk (Kd.R_below (by (with_reducible repeat (first | apply Kd.R_alloc | apply Kd.R_drewN | apply Kd.R_drew)); exact HO_46.out) hb); have n3_ := Aside0.mk (below_step (by repeat (first | (with_reducible first | exact HB.out | apply below_alloc | apply pw_below_drewN | apply below_drew1) | exact HB.out)) hb); clear HO_8; clear HO_9; clear HO_46; clear HB; have HO_8 := n0_; have HO_9 := n1_; have HO_46 := n2_; have HB := n3_; clear n0_ n1_ n2_ n3_; (try clear hb); (try clear hb2); (try clear hk); (try clear hi)))
           go_ret
           exact ⟨by first | rfl | (simp [errW_none, errW_some] <;> rfl) | (simp [*, errW_none, errW_some] <;> rfl), by repeat (first | (with_reducible first | exact HB.out | apply below_alloc | apply pw_below_drewN | apply below_drew1) | exact HB.out)⟩
       ·
        rw [if_neg c28] at H
        have c28b0 : ((t306.length : Int) == (l0.length : Int)) = false := beq_eq_false_iff_ne.mpr c28
        have c28b1 : ((t306.length : Int) != (l0.length : Int)) = true := bne_iff_ne.mpr c28
        have c28b2 : (t306.length == l0.length) = false := by first | simpa using c28 | (simp at c28 ⊢; omega)
        obtain rfl := Option.some.inj H
        obtain ⟨Ao61, co61, eo61⟩ := Kd.V_slice HO_3.out
        subst eo61
        go_wp2_with (first | ((with_reducible refine gate_callee (f := 26) rfl ?_); refine goesL_ (some 39) rfl rfl Try.func26 (by kernel_rfl) rfl #[.slice Ao61 x3_2.length co61] rfl (by (try simp only [List.map_toArray, List.map_cons, List.map_nil]); first | done | rfl | (simp only [List.length_drop, List.length_take]; rfl)) ?_; (with_reducible refine (heap_Down.calls k2 (fun k_ => (P0_ k_ ∨ w.heap.size ≤ k_)) _ _ x3_2 t306 _ ?side1 A27.out).mono ?_); (case side1 => exact HO_3.out); rintro e w62 ⟨v307, rfl, ho0, hb⟩; refine ⟨_, rfl, ?_⟩; have n0_ := Aside0.mk (Kd.V_elder' (by (with_reducible repeat (first | apply Kd.V_alloc | apply Kd.V_drewN | apply Kd.V_drew)); exact HO_0.out) (Kd.R_base ho0) hb); have n1_ := Aside0.mk (Kd.V_elder' (by (with_reducible repeat (first | apply Kd.V_alloc | apply Kd.V_drewN | apply Kd.V_drew)); exact HO_3.out) (Kd.R_base ho0) hb); have n2_ := Aside0.mk (Kd.V_elder' (by (with_reducible repeat (first | apply Kd.V_alloc | apply Kd.V_drewN | apply Kd.V_drew)); exact HO_22.out) (Kd.R_base ho0) hb); have n3_ := Aside0.mk (Kd.R_lower (Kd.R_newM (M := fun k_ => (w.heap.size ≤ k_)) (Kd.R_mono (ok' := fun k_ => True) ho0 (fun _ hk_ => trivial)) (below_size (by repeat (first | (with_reducible first | exact HB.out | apply below_alloc | apply pw_below_drewN | apply below_drew1) | exact HB.out))) (fun k_ h_ => h_)) (below_size (by repeat (first | (with_reducible first | exact HB.out | apply below_alloc | apply pw_below_drewN | apply below_drew1) | exact HB.out)))); have n4_ := Aside0.mk (below_step (by repeat (first | (with_reducible first | exact HB.out | apply below_alloc | apply pw_below_drewN | apply below_drew1) | exact HB.out)) hb); clear HO_0; clear HO_3; clear HO_22; clear HB; have HO_0 := n0_; have HO_3 := n1_; have HO_22 := n2_; have HO308 := n3_; have HB := n4_; clear n0_ n1_ n2_ n3_ n4_; (try clear hb); (try clear hb2); (try clear hk); (try clear hi); (try clear ho0); obtain ⟨Ao63, co63, eo63⟩ := Kd.R_slice HO308.out; subst eo63))
        go_ret
        exact ⟨by first | rfl | (simp [errW_none, errW_some] <;> rfl) | (simp [*, errW_none, errW_some] <;> rfl), by repeat (first | (with_reducible first | exact HB.out | apply below_alloc | apply pw_below_drewN | apply below_drew1) | exact HB.out)⟩

end Go.Proofs.Ytobdhjnaglikaaa.Q
