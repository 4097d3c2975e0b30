/- Walks of Go functions, each against a plain function over numbers and lists; written by this session's program printx.py over the kit's print; no condition but those that each theorem states. -/
import Derived.Test.YtpgfadljcmakfaaTx0
import Derived.Test.YtpgfadljcmakfaaTx1
import Derived.Test.YtpgfadljcmakfaaTx2
namespace Go.Proofs.Ytpgfadljcmakfaa.T
open Go.Proofs.Ytpgfadljcmakfaa.Q Go.RowKit Go.Proofs.YtpgfadljcmakfaaW.PrintWords Go.Proofs.YtpgfadljcmakfaaW.PrintLast Go.Proofs.YtpgfadljcmakfaaW.PrintMore
attribute [local go_sem] max2_int min2_int max_two min_two max_three min_three max_four min_four   -- for this text's walks alone
set_option linter.unusedVariables false
set_option linter.unusedSimpArgs false

/-! ### draw_attempt: function 29 -/
mutual
def draw_attempt.l0 : Nat → Int → Int → List Int → List Int → Int → Int → List Int → Int → Option (List Int × List Int × Int × Bool)
 | 0, _, _, _, _, _, _, _, _ => none
 | k + 1, x1, x7, x8, x32, x33, x34, x152000, x152001 => if x34 < x33 then (if 0 ≤ x34 then (if x34 < (x32.length : Int) then (if 0 ≤ (mn x1 64) then ((some (([(Go.bits .and .u64 (rd x32 x34) (IntKind.u64.wrap ((shl .u64 1 (mn x1 64)) - 1))) % 4294967296, ((Go.bits .and .u64 (rd x32 x34) (IntKind.u64.wrap ((shl .u64 1 (mn x1 64)) - 1))) / 4294967296) % 4294967296] : List Int) : List Int)).bind fun y163 => (if x8.length + y163.length < 35184372088832 then (draw_attempt.l0 k (wrap64 (x1 - (mn x1 64))) x7 (x8 ++ y163) x32 x33 (wrap64 (x34 + 1)) x152000 x152001) else (none))) else (none)) else (none)) else (none)) else (draw_attempt.l1 k x7 x8 x152000 x152001)
def draw_attempt.l1 : Nat → Int → List Int → List Int → Int → Option (List Int × List Int × Int × Bool)
 | 0, _, _, _, _ => none
 | k + 1, x7, x8, x152000, x152001 => if (x8.length : Int) > 0 then (if 0 ≤ (wrap64 ((x8.length : Int) - 1)) then (if (wrap64 ((x8.length : Int) - 1)) < (x8.length : Int) then (if (rd x8 (wrap64 ((x8.length : Int) - 1))) = 0 then (if (wrap64 ((x8.length : Int) - 1)) ≤ (x8.length : Int) then (draw_attempt.l1 k x7 (x8.take ((wrap64 ((x8.length : Int) - 1)) : Int).toNat) x152000 x152001) else (none)) else (some (x8, x152000, wrap64 (x152001 + x7), true))) else (none)) else (none)) else (some (x8, x152000, wrap64 (x152001 + x7), true))
end
def draw_attempt.f (k : Nat) (l0_0 : List Int) (a0_1 : Int) (a1 : Int) : Option (List Int × List Int × Int × Bool) := (draw_Left.f l0_0 a0_1).bind fun t153 => (if t153 < (wrap64 (Int.tdiv (wrap64 ((wrap64 (a1 + 64)) - 1)) 64)) then (some (([] : List Int), l0_0, a0_1, false)) else (if 0 ≤ (wrap64 (2 * (wrap64 (Int.tdiv (wrap64 ((wrap64 (a1 + 64)) - 1)) 64)))) then (if (wrap64 (2 * (wrap64 (Int.tdiv (wrap64 ((wrap64 (a1 + 64)) - 1)) 64))) : Int).toNat ≤ 70368744177664 then (if 0 ≤ a0_1 then (if a0_1 ≤ (wrap64 (a0_1 + (wrap64 (Int.tdiv (wrap64 ((wrap64 (a1 + 64)) - 1)) 64)))) then (if (wrap64 (a0_1 + (wrap64 (Int.tdiv (wrap64 ((wrap64 (a1 + 64)) - 1)) 64)))) ≤ (l0_0.length : Int) then ((some ((l0_0.take ((wrap64 (a0_1 + (wrap64 (Int.tdiv (wrap64 ((wrap64 (a1 + 64)) - 1)) 64)))) : Int).toNat).drop (a0_1 : Int).toNat : List Int)).bind fun y157 => (draw_attempt.l0 k a1 (wrap64 (Int.tdiv (wrap64 ((wrap64 (a1 + 64)) - 1)) 64)) (List.replicate 0 0) y157 (y157.length : Int) 0 l0_0 a0_1)) else (none)) else (none)) else (none)) else (none)) else (none)))
theorem draw_attempt.mono_l : ∀ k, (∀ y0 y1 y2 y3 y4 y5 y6 y7, LeO (draw_attempt.l0 k y0 y1 y2 y3 y4 y5 y6 y7) (draw_attempt.l0 (k + 1) y0 y1 y2 y3 y4 y5 y6 y7)) ∧ (∀ y0 y1 y2 y3, LeO (draw_attempt.l1 k y0 y1 y2 y3) (draw_attempt.l1 (k + 1) y0 y1 y2 y3))
 | 0 => ⟨fun _ _ _ _ _ _ _ _ r h => by simp [draw_attempt.l0] at h, fun _ _ _ _ r h => by simp [draw_attempt.l1] at h⟩
 | k + 1 => by
  obtain ⟨ih0, ih1⟩ := draw_attempt.mono_l k
  refine ⟨?_, ?_⟩
  ·
   intro y0 y1 y2 y3 y4 y5 y6 y7
   unfold draw_attempt.l0
   repeat' first
   | (with_reducible exact ih0 _ _ _ _ _ _ _ _)
   | (with_reducible exact ih1 _ _ _ _)
   | (with_reducible exact LeO.refl _)
   | (with_reducible exact LeO.none _)
   | (with_reducible refine LeO.ite ?_ ?_)
   | (with_reducible refine LeO.bind ?_ (fun _ => ?_))
   | exact ih0 _ _ _ _ _ _ _ _
   | exact ih1 _ _ _ _
   | exact LeO.none _
   | refine LeO.ite ?_ ?_
   | refine LeO.bind ?_ (fun _ => ?_)
  ·
   intro y0 y1 y2 y3
   unfold draw_attempt.l1
   repeat' first
   | (with_reducible exact ih0 _ _ _ _ _ _ _ _)
   | (with_reducible exact ih1 _ _ _ _)
   | (with_reducible exact LeO.refl _)
   | (with_reducible exact LeO.none _)
   | (with_reducible refine LeO.ite ?_ ?_)
   | (with_reducible refine LeO.bind ?_ (fun _ => ?_))
   | exact ih0 _ _ _ _ _ _ _ _
   | exact ih1 _ _ _ _
   | exact LeO.none _
   | refine LeO.ite ?_ ?_
   | refine LeO.bind ?_ (fun _ => ?_)
theorem draw_attempt.mono : ∀ a0 a1 a2 k, LeO (draw_attempt.f k a0 a1 a2) (draw_attempt.f (k + 1) a0 a1 a2) := by
 intro a0 a1 a2 k
 obtain ⟨ih0, ih1⟩ := draw_attempt.mono_l k
 unfold draw_attempt.f
 repeat' first
   | (with_reducible exact ih0 _ _ _ _ _ _ _ _)
   | (with_reducible exact ih1 _ _ _ _)
   | (with_reducible exact LeO.refl _)
   | (with_reducible exact LeO.none _)
   | (with_reducible refine LeO.ite ?_ ?_)
   | (with_reducible refine LeO.bind ?_ (fun _ => ?_))
   | exact ih0 _ _ _ _ _ _ _ _
   | exact ih1 _ _ _ _
   | exact LeO.none _
   | refine LeO.ite ?_ ?_
   | refine LeO.bind ?_ (fun _ => ?_)
set_option maxHeartbeats 8000000 in
set_option maxRecDepth 100000 in
theorem draw_attempt.calls (k : Nat) (P0_0_ : Nat → Prop) (A0_0 : Option Addr) (c0_0 : Nat) (l0_0 : List Int) (a0_1 : Int) (a1 : Int) (r1 : List Int) (r2 : List Int) (r3 : Int) (r4 : Bool) (w : World) (hs0_0 : Kd.V (Kd.int .u64) 23 w w.heap.size (fun k_ => P0_0_ k_) (.slice A0_0 l0_0.length c0_0) l0_0) (h : draw_attempt.f k l0_0 a0_1 a1 = some (r1, r2, r3, r4)) :
  Calls Try.prog 29 #[.agg #[.slice A0_0 l0_0.length c0_0, .int .i64 a0_1], .int .i64 a1] w fun e w' => ∃ v0_ v1_ : Value, e = .returned (.tuple #[v0_, .agg #[v1_, .int .i64 r3], .bool r4]) ∧ Kd.R (Kd.int .u32) 48 w' w.heap.size (fun k_ => (w.heap.size ≤ k_)) v0_ r1 ∧ Kd.V (Kd.int .u64) 23 w' w.heap.size (fun k_ => (P0_0_ k_ ∨ w.heap.size ≤ k_) ∧ some k_ ≠ (v0_ : Value).ownBlock) v1_ r2 ∧ Below w.heap.size w w' := by
 have hu28 := Try.underlying28
 have HO0_0 := Aside0.mk (show Kd.V (Kd.int .u64) 23 w w.heap.size (fun k_ => (P0_0_ k_ ∨ w.heap.size ≤ k_)) (.slice A0_0 l0_0.length c0_0) l0_0 from Kd.V_mono hs0_0 (fun k_ hk => .inl hk))
 have HB := Aside0.mk (Below.refl w.heap.size w)
 have H : ((draw_Left.f l0_0 a0_1).bind fun t153 => (if t153 < (wrap64 (Int.tdiv (wrap64 ((wrap64 (a1 + 64)) - 1)) 64)) then (some (([] : List Int), l0_0, a0_1, false)) else (if 0 ≤ (wrap64 (2 * (wrap64 (Int.tdiv (wrap64 ((wrap64 (a1 + 64)) - 1)) 64)))) then (if (wrap64 (2 * (wrap64 (Int.tdiv (wrap64 ((wrap64 (a1 + 64)) - 1)) 64))) : Int).toNat ≤ 70368744177664 then (if 0 ≤ a0_1 then (if a0_1 ≤ (wrap64 (a0_1 + (wrap64 (Int.tdiv (wrap64 ((wrap64 (a1 + 64)) - 1)) 64)))) then (if (wrap64 (a0_1 + (wrap64 (Int.tdiv (wrap64 ((wrap64 (a1 + 64)) - 1)) 64)))) ≤ (l0_0.length : Int) then ((some ((l0_0.take ((wrap64 (a0_1 + (wrap64 (Int.tdiv (wrap64 ((wrap64 (a1 + 64)) - 1)) 64)))) : Int).toNat).drop (a0_1 : Int).toNat : List Int)).bind fun y157 => (draw_attempt.l0 k a1 (wrap64 (Int.tdiv (wrap64 ((wrap64 (a1 + 64)) - 1)) 64)) (List.replicate 0 0) y157 (y157.length : Int) 0 l0_0 a0_1)) else (none)) else (none)) else (none)) else (none)) else (none)))) = some (r1, r2, r3, r4) := h
 clear h
 replace H := Option.bind_eq_some_iff.mp H
 obtain ⟨t153, A30, H⟩ := H
 replace H : (if t153 < (wrap64 (Int.tdiv (wrap64 ((wrap64 (a1 + 64)) - 1)) 64)) then (some (([] : List Int), l0_0, a0_1, false)) else (if 0 ≤ (wrap64 (2 * (wrap64 (Int.tdiv (wrap64 ((wrap64 (a1 + 64)) - 1)) 64)))) then (if (wrap64 (2 * (wrap64 (Int.tdiv (wrap64 ((wrap64 (a1 + 64)) - 1)) 64))) : Int).toNat ≤ 70368744177664 then (if 0 ≤ a0_1 then (if a0_1 ≤ (wrap64 (a0_1 + (wrap64 (Int.tdiv (wrap64 ((wrap64 (a1 + 64)) - 1)) 64)))) then (if (wrap64 (a0_1 + (wrap64 (Int.tdiv (wrap64 ((wrap64 (a1 + 64)) - 1)) 64)))) ≤ (l0_0.length : Int) then ((some ((l0_0.take ((wrap64 (a0_1 + (wrap64 (Int.tdiv (wrap64 ((wrap64 (a1 + 64)) - 1)) 64)))) : Int).toNat).drop (a0_1 : Int).toNat : List Int)).bind fun y157 => (draw_attempt.l0 k a1 (wrap64 (Int.tdiv (wrap64 ((wrap64 (a1 + 64)) - 1)) 64)) (List.replicate 0 0) y157 (y157.length : Int) 0 l0_0 a0_1)) else (none)) else (none)) else (none)) else (none)) else (none))) = some (r1, r2, r3, r4) := H
 have A3 := Aside0.mk A30
 clear A30
 by_cases c4 : t153 < (wrap64 (Int.tdiv (wrap64 ((wrap64 (a1 + 64)) - 1)) 64))
 ·
  rw [if_pos c4] at H
  have c4b0 : decide (t153 < (wrap64 (Int.tdiv (wrap64 ((wrap64 (a1 + 64)) - 1)) 64))) = true := decide_eq_true c4
  clear c4
  simp only [Option.some.injEq, Prod.mk.injEq] at H
  obtain ⟨rfl, rfl, rfl, rfl⟩ := H
  go_enter Try.func29, Try.ntmps29
  try go_wp2_with (first | ((with_reducible refine gate_dst (N := 2) rfl ?_); (try (refine gate_guard (by rfl) ?_; dsimp only)); refine box_event ?hg (N := 2) ?hd (cs := #[.slice A0_0 l0_0.length c0_0, .int .i64 a0_1]) (t := 28) ?hr ?_; (case hd => rfl); (case hg => rfl); (case hr => first | (go_simp; done) | (go_simp; rfl)); intro gb151 hg w5 hbox hb; have n0_ := Aside0.mk (Kd.V_below (Kd.V_elderB (by (with_reducible repeat (first | apply Kd.V_alloc | apply Kd.V_drewN | apply Kd.V_drew)); exact HO0_0.out) gb151 (Nat.le_of_eq hg.symm)) hb); have n1_ := Aside0.mk (below_step (by repeat (first | (with_reducible first | exact HB.out | apply below_alloc | apply pw_below_drewN | apply below_drew1) | exact HB.out)) hb); have n2_ := Aside0.mk (hbox); have n3_ := Aside0.mk ((by rw [hg]; exact (below_size (by repeat (first | (with_reducible first | exact HB.out | apply below_alloc | apply pw_below_drewN | apply below_drew1) | exact HB.out))) : w.heap.size ≤ gb151)); have n4_ := Aside0.mk ((by rw [hg]; exact (below_size (by repeat (first | (with_reducible first | exact HB.out | apply below_alloc | apply pw_below_drewN | apply below_drew1) | exact HB.out))) : w.heap.size ≤ gb151)); clear HO0_0; clear HB; have HO0_0 := n0_; have HB := n1_; have BK151 := n2_; have GW151 := n3_; have GE151 := n4_; clear n0_ n1_ n2_ n3_ n4_; clear hb hbox hg) | ((with_reducible refine gate_dst (N := 5) rfl ?_); (try (refine gate_guard (by rfl) ?_; dsimp only)); refine box_event ?hg (N := 5) ?hd (cs := #[.slice none 0 0, .int .i64 0]) (t := 28) ?hr ?_; (case hd => rfl); (case hg => rfl); (case hr => first | (go_simp; done) | (go_simp; rfl)); intro gb152 hg w6 hbox hb; have n0_ := Aside0.mk (Kd.V_below (Kd.V_elderB (by (with_reducible repeat (first | apply Kd.V_alloc | apply Kd.V_drewN | apply Kd.V_drew)); exact HO0_0.out) gb152 (Nat.le_of_eq hg.symm)) hb); have n1_ := Aside0.mk (blk_below (g := gb151) (o := .cells #[.slice A0_0 l0_0.length c0_0, .int .i64 a0_1] 28 (0, 0)) (by (with_reducible repeat (first | refine blk_drewN ?_ _ | refine blk_drew ?_ | refine blk_alloc ?_ _)); exact BK151.out) hb); have n2_ := Aside0.mk (below_step (by repeat (first | (with_reducible first | exact HB.out | apply below_alloc | apply pw_below_drewN | apply below_drew1 | refine below_set ?_ GE151.out) | exact HB.out)) hb); have n3_ := Aside0.mk (hbox); have n4_ := Aside0.mk ((by rw [hg]; exact (below_size (by repeat (first | (with_reducible first | exact HB.out | apply below_alloc | apply pw_below_drewN | apply below_drew1 | refine below_set ?_ GE151.out) | exact HB.out))) : w.heap.size ≤ gb152)); have n5_ := Aside0.mk ((by rw [hg]; exact (below_size (by repeat (first | (with_reducible first | exact HB.out | apply below_alloc | apply pw_below_drewN | apply below_drew1 | refine below_set ?_ GE151.out) | exact HB.out))) : w.heap.size ≤ gb152)); have n6_ := Aside0.mk ((by rw [hg]; exact Nat.ne_of_lt (blk_lt (g := gb151) (o := .cells #[.slice A0_0 l0_0.length c0_0, .int .i64 a0_1] 28 (0, 0)) (by (with_reducible repeat (first | refine blk_drewN ?_ _ | refine blk_drew ?_ | refine blk_alloc ?_ _)); exact BK151.out)) : gb151 ≠ gb152)); have n7_ := Aside0.mk ((by rw [hg]; exact Nat.ne_of_gt (blk_lt (g := gb151) (o := .cells #[.slice A0_0 l0_0.length c0_0, .int .i64 a0_1] 28 (0, 0)) (by (with_reducible repeat (first | refine blk_drewN ?_ _ | refine blk_drew ?_ | refine blk_alloc ?_ _)); exact BK151.out)) : gb152 ≠ gb151)); clear HO0_0; clear BK151; clear HB; have HO0_0 := n0_; have BK151 := n1_; have HB := n2_; have BK152 := n3_; have GW152 := n4_; have GE152 := n5_; have NB151_152 := n6_; have NB152_151 := n7_; clear n0_ n1_ n2_ n3_ n4_ n5_ n6_ n7_; clear hb hbox hg; have hnb7 := NB151_152.out; have hnc7 := NB152_151.out; have hcz8_0 : w6.cell? ⟨gb151, 0, none⟩ = some (.slice A0_0 l0_0.length c0_0) := (blk_cell BK151.out 0).trans rfl; have hcz8_1 : w6.cell? ⟨gb151, 1, none⟩ = some (.int .i64 a0_1) := (blk_cell BK151.out 1).trans rfl; have hfz8_0 := blk_frozen BK151.out 0; have hfz8_1 := blk_frozen BK151.out 1) | ((with_reducible refine gate_callee (f := 16) rfl ?_); refine goesL_ (some 17) rfl rfl Try.func16 (by kernel_rfl) rfl #[.agg #[.slice A0_0 l0_0.length c0_0, .int .i64 a0_1]] rfl (by (try simp only [List.map_toArray, List.map_cons, List.map_nil]); first | done | rfl | (simp only [List.length_drop, List.length_take]; rfl)) ?_; (with_reducible refine (draw_Left.calls _ _ l0_0 a0_1 t153 _ ?side1 ?side2 A3.out).mono ?_); (case side1 => repeat (first | exact (Kd.V_reads' HO0_0.out).2.2 | (with_reducible refine Kd.C_alloc ?_ _) | (with_reducible refine Kd.C_drewN ?_ _) | (with_reducible refine Kd.C_drew ?_))); (case side2 => exact (Kd.V_reads' HO0_0.out).2.1); rintro e w9 ⟨rfl, hb⟩; refine ⟨_, rfl, ?_⟩; have n0_ := Aside0.mk (Kd.V_below (by (with_reducible repeat (first | apply Kd.V_alloc | apply Kd.V_drewN | apply Kd.V_drew)); exact HO0_0.out) hb); have n1_ := Aside0.mk (blk_below (g := gb151) (o := .cells #[.slice A0_0 l0_0.length c0_0, .int .i64 a0_1] 28 (0, 0)) (by (with_reducible repeat (first | refine blk_drewN ?_ _ | refine blk_drew ?_ | refine blk_alloc ?_ _)); exact BK151.out) hb); have n2_ := Aside0.mk (blk_below (g := gb152) (o := .cells #[.slice none 0 0, .int .i64 0] 28 (0, 0)) (by (with_reducible repeat (first | refine blk_drewN ?_ _ | refine blk_drew ?_ | refine blk_alloc ?_ _)); exact BK152.out) hb); have n3_ := Aside0.mk (below_step (by repeat (first | (with_reducible first | exact HB.out | apply below_alloc | apply pw_below_drewN | apply below_drew1 | refine below_set ?_ GE151.out | refine below_set ?_ GE152.out) | exact HB.out)) hb); clear HO0_0; clear BK151; clear BK152; clear HB; have HO0_0 := n0_; have BK151 := n1_; have BK152 := n2_; have HB := n3_; clear n0_ n1_ n2_ n3_; (try clear hb); (try clear hb2); (try clear hk); (try clear hi)))
  have n0_ := Aside0.mk (Kd.V_drew HO0_0.out)
  have n1_ := Aside0.mk (blk_drew BK151.out)
  have n2_ := Aside0.mk (blk_drew BK152.out)
  have n3_ := Aside0.mk (below_drew1 HB.out)
  clear HO0_0
  clear BK151
  clear BK152
  clear HB
  have HO0_0 := n0_
  have BK151 := n1_
  have BK152 := n2_
  have HB := n3_
  clear n0_ n1_ n2_ n3_
  refine start_ (n := 4) (S := fun w' => w'.cell? ⟨gb151, 0, none⟩ = some (.slice A0_0 l0_0.length c0_0) ∧ w'.cell? ⟨gb151, 1, none⟩ = some (.int .i64 a0_1)) (ds := []) #[false, false, false, false] (by kernel_rfl) rfl rfl ⟨(blk_cell BK151.out 0).trans rfl, (blk_cell BK151.out 1).trans rfl⟩ (fun hHeld => ?_)
  generalize w9.drew = w10 at HO0_0 BK151 BK152 HB hHeld ⊢
  refine pure_ (i := 1) (N := some 4) (v := ?_) (a' := ?_) #[false, true, false, false] rfl rfl (by kernel_rfl) (fun _ _ _ h => h) (Or.inl ⟨by rfl, ?_⟩) ?_ ?_
  rotate_left
  ·
   intro w'
   go_simp
   with_reducible rfl
  rotate_left
  ·
   simp only [Act.put, List.setIfInBounds_toArray, List.set_cons_zero, List.set_cons_succ, i64_w, i32_w]
   rfl
  refine take_ (i := 0) (N := some 20) (v := ?_) (a' := ?_) #[true, true, false, false] rfl rfl (by kernel_rfl) (fun _ _ _ h => h) (Or.inl ⟨by rfl, ?_⟩) hHeld ?_ ?_
  rotate_left
  ·
   rintro w' ⟨s0, s1⟩
   go_simp
   with_reducible rfl
  rotate_left
  ·
   simp only [Act.put, List.setIfInBounds_toArray, List.set_cons_zero, List.set_cons_succ, i64_w, i32_w]
   rfl
  refine one_ (i := 2) (N := none) #[true, true, true, false] rfl rfl (by kernel_rfl) (by decide) (fun K hK => ?_)
  have hs11 : w10.cell? ⟨gb152, 0, none⟩ = some (.slice none 0 0) := (blk_cell BK152.out 0).trans rfl
  have hfs11 := blk_frozen BK152.out 0
  have hns11_0 := NB151_152.out
  have hms11_0 := NB152_151.out
  have hs12 : w10.cell? ⟨gb152, 1, none⟩ = some (.int .i64 0) := (blk_cell BK152.out 1).trans rfl
  have hfs12 := blk_frozen BK152.out 1
  have hns12_0 := NB151_152.out
  have hms12_0 := NB152_151.out
  refine skip_ (w1 := ?_) (by rfl) rfl ?_ ?_
  rotate_left
  ·
   go_simp
   rfl
  refine hK.out _ _ ⟨((cell_far (p := ⟨gb152, _, none⟩) NB151_152.out _).trans (((cell_far (p := ⟨gb152, _, none⟩) NB151_152.out _).trans (hHeld.1)))), ((cell_far (p := ⟨gb152, _, none⟩) NB151_152.out _).trans (((cell_far (p := ⟨gb152, _, none⟩) NB151_152.out _).trans (hHeld.2))))⟩ (fun hHeld => ?_)
  clear hK K
  refine pure_ (i := 3) (N := some 6) (v := ?_) (a' := ?_) #[true, true, true, true] rfl rfl (by kernel_rfl) (fun _ _ _ h => h) (Or.inl ⟨by rfl, ?_⟩) ?_ ?_
  rotate_left
  ·
   intro w'
   go_simp
   with_reducible rfl
  rotate_left
  ·
   simp only [Act.put, List.setIfInBounds_toArray, List.set_cons_zero, List.set_cons_succ, i64_w, i32_w]
   rfl
  refine done_ (by kernel_rfl) ?_
  try go_wp2
  refine bodyPost_ret (results_list (rs := [.tmp 4, .cell 5 28, .tmp 6]) rfl (by simp) (.tmp (.cell gb152 28 #[.slice A0_0 l0_0.length c0_0, .int .i64 a0_1] (0, 0) _ rfl (by (with_reducible repeat (first | refine blk_drewN ?_ _ | refine blk_drew ?_ | refine blk_alloc ?_ _)); refine blk_put (cs := #[.slice A0_0 l0_0.length c0_0, .int .i64 0]) ?_ 1 _ rfl; (with_reducible repeat (first | refine blk_drewN ?_ _ | refine blk_drew ?_ | refine blk_alloc ?_ _)); refine blk_put (cs := #[.slice none 0 0, .int .i64 0]) ?_ 0 _ rfl; (with_reducible repeat (first | refine blk_drewN ?_ _ | refine blk_drew ?_ | refine blk_alloc ?_ _)); exact BK152.out) Try.underlying28 rfl (by kernel_rfl) (.tmp .nil)))) rfl ?_
  exact ⟨_, _, by first | rfl | (simp [errW_none, errW_some] <;> rfl) | (simp [*, errW_none, errW_some] <;> rfl), by first | exact Kd.R_nil _ _ _ _ _ | exact Kd.N_nil _ _ _ _ _ | exact Kd.V_nil _ _ _ _ _ | exact Kd.Q_nil _ _ _ _ _ | exact Kd.S_nil _ _ _ _ _, by (with_reducible repeat (first | apply Kd.V_alloc | apply Kd.V_drewN | apply Kd.V_drew)); exact Kd.V_mono (Kd.V_far (p := ⟨gb152, 1, none⟩) (Kd.V_far (p := ⟨gb152, 0, none⟩) (Kd.V_mono HO0_0.out (fun k_ hk => (⟨hk, hk.2⟩ : _ ∧ k_ ≠ gb152))) (fun _ hk => hk.2) (.slice A0_0 l0_0.length c0_0)) (fun _ hk => hk.2) (.int .i64 a0_1)) (fun _ hk => ⟨hk.1.1.1, (by simp [Value.ownBlock])⟩), by repeat (first | (with_reducible first | exact HB.out | apply below_alloc | apply pw_below_drewN | apply below_drew1 | refine below_set ?_ GE151.out | refine below_set ?_ GE152.out) | exact HB.out)⟩
 ·
  rw [if_neg c4] at H
  have c4b0 : decide (t153 < (wrap64 (Int.tdiv (wrap64 ((wrap64 (a1 + 64)) - 1)) 64))) = false := decide_eq_false c4
  clear c4
  obtain ⟨ji13, hji13⟩ : ∃ j_ : Int, (wrap64 (2 * (wrap64 (Int.tdiv (wrap64 ((wrap64 (a1 + 64)) - 1)) 64)))) = j_ := ⟨_, rfl⟩
  replace H : (if 0 ≤ (ji13) then (if (ji13 : Int).toNat ≤ 70368744177664 then (if 0 ≤ a0_1 then (if a0_1 ≤ (wrap64 (a0_1 + (wrap64 (Int.tdiv (wrap64 ((wrap64 (a1 + 64)) - 1)) 64)))) then (if (wrap64 (a0_1 + (wrap64 (Int.tdiv (wrap64 ((wrap64 (a1 + 64)) - 1)) 64)))) ≤ (l0_0.length : Int) then ((some ((l0_0.take ((wrap64 (a0_1 + (wrap64 (Int.tdiv (wrap64 ((wrap64 (a1 + 64)) - 1)) 64)))) : Int).toNat).drop (a0_1 : Int).toNat : List Int)).bind fun y157 => (draw_attempt.l0 k a1 (wrap64 (Int.tdiv (wrap64 ((wrap64 (a1 + 64)) - 1)) 64)) (List.replicate 0 0) y157 (y157.length : Int) 0 l0_0 a0_1)) else (none)) else (none)) else (none)) else (none)) else (none)) = some (r1, r2, r3, r4) := by first | (rw [hji13] at H; exact H) | (simp only [hji13] at H ⊢; exact H)
  (try rw [hji13] at A3)
  have hji13w : (IntKind.i64.wrap (2 * (wrap64 (Int.tdiv (wrap64 ((wrap64 (a1 + 64)) - 1)) 64)))) = ji13 := (i64_w _).trans hji13
  by_cases c14 : 0 ≤ (ji13)
  ·
   rw [if_pos c14] at H
   have c14b0 := eq_true c14
   have c14b1 : decide (0 ≤ (ji13)) = true := decide_eq_true c14
   clear c14
   by_cases c15 : (ji13 : Int).toNat ≤ 70368744177664
   ·
    rw [if_pos c15] at H
    have c15b0 := eq_true c15
    have c15b1 : decide ((ji13 : Int).toNat ≤ 70368744177664) = true := decide_eq_true c15
    clear c15
    obtain ⟨y154, hy154⟩ : ∃ y_ : List Int, y_ = (List.replicate 0 0) := ⟨_, rfl⟩
    replace H : (if 0 ≤ a0_1 then (if a0_1 ≤ (wrap64 (a0_1 + (wrap64 (Int.tdiv (wrap64 ((wrap64 (a1 + 64)) - 1)) 64)))) then (if (wrap64 (a0_1 + (wrap64 (Int.tdiv (wrap64 ((wrap64 (a1 + 64)) - 1)) 64)))) ≤ (l0_0.length : Int) then ((some ((l0_0.take ((wrap64 (a0_1 + (wrap64 (Int.tdiv (wrap64 ((wrap64 (a1 + 64)) - 1)) 64)))) : Int).toNat).drop (a0_1 : Int).toNat : List Int)).bind fun y157 => (draw_attempt.l0 k a1 (wrap64 (Int.tdiv (wrap64 ((wrap64 (a1 + 64)) - 1)) 64)) y154 y157 (y157.length : Int) 0 l0_0 a0_1)) else (none)) else (none)) else (none)) = some (r1, r2, r3, r4) := by first | (rw [hy154]; with_reducible exact H) | (have H2_ := (Option.bind_some _ _).symm.trans H; rw [hy154]; with_reducible exact H2_) | (have H2_ := (Option.bind_some _ _).symm.trans H; with_reducible exact H2_) | with_reducible exact H | (rw [hy154]; exact H) | exact H
    have Ny154 := Aside0.mk hy154
    clear hy154
    by_cases c16 : 0 ≤ a0_1
    ·
     rw [if_pos c16] at H
     have c16b0 := eq_true c16
     have c16b1 : decide (0 ≤ a0_1) = true := decide_eq_true c16
     clear c16
     by_cases c17 : a0_1 ≤ (wrap64 (a0_1 + (wrap64 (Int.tdiv (wrap64 ((wrap64 (a1 + 64)) - 1)) 64))))
     ·
      rw [if_pos c17] at H
      have c17b0 := eq_true c17
      have c17b1 : decide (a0_1 ≤ (wrap64 (a0_1 + (wrap64 (Int.tdiv (wrap64 ((wrap64 (a1 + 64)) - 1)) 64))))) = true := decide_eq_true c17
      by_cases c18 : (wrap64 (a0_1 + (wrap64 (Int.tdiv (wrap64 ((wrap64 (a1 + 64)) - 1)) 64)))) ≤ (l0_0.length : Int)
      ·
       rw [if_pos c18] at H
       have c18b0 := eq_true c18
       have c18b1 : decide ((wrap64 (a0_1 + (wrap64 (Int.tdiv (wrap64 ((wrap64 (a1 + 64)) - 1)) 64)))) ≤ (l0_0.length : Int)) = true := decide_eq_true c18
       obtain ⟨y157, hy157⟩ : ∃ y_ : List Int, y_ = ((l0_0.take ((wrap64 (a0_1 + (wrap64 (Int.tdiv (wrap64 ((wrap64 (a1 + 64)) - 1)) 64)))) : Int).toNat).drop (a0_1 : Int).toNat) := ⟨_, rfl⟩
       replace H : (draw_attempt.l0 k a1 (wrap64 (Int.tdiv (wrap64 ((wrap64 (a1 + 64)) - 1)) 64)) y154 y157 (y157.length : Int) 0 l0_0 a0_1) = some (r1, r2, r3, r4) := by first | (rw [hy157]; with_reducible exact H) | (have H2_ := (Option.bind_some _ _).symm.trans H; rw [hy157]; with_reducible exact H2_) | (have H2_ := (Option.bind_some _ _).symm.trans H; with_reducible exact H2_) | with_reducible exact H | (rw [hy157]; exact H) | exact H
       have Ny157 := Aside0.mk hy157
       clear hy157
       have H' := Aside0.mk H
       clear H
       go_enter Try.func29, Try.ntmps29
       go_wp2_with (first | ((with_reducible refine gate_dst (N := 2) rfl ?_); (try (refine gate_guard (by rfl) ?_; dsimp only)); refine box_event ?hg (N := 2) ?hd (cs := #[.slice A0_0 l0_0.length c0_0, .int .i64 a0_1]) (t := 28) ?hr ?_; (case hd => rfl); (case hg => rfl); (case hr => first | (go_simp; done) | (go_simp; rfl)); intro gb151 hg w19 hbox hb; have n0_ := Aside0.mk (Kd.V_below (Kd.V_elderB (by (with_reducible repeat (first | apply Kd.V_alloc | apply Kd.V_drewN | apply Kd.V_drew)); exact HO0_0.out) gb151 (Nat.le_of_eq hg.symm)) hb); have n1_ := Aside0.mk (below_step (by repeat (first | (with_reducible first | exact HB.out | apply below_alloc | apply pw_below_drewN | apply below_drew1) | exact HB.out)) hb); have n2_ := Aside0.mk (hbox); have n3_ := Aside0.mk ((by rw [hg]; exact (below_size (by repeat (first | (with_reducible first | exact HB.out | apply below_alloc | apply pw_below_drewN | apply below_drew1) | exact HB.out))) : w.heap.size ≤ gb151)); have n4_ := Aside0.mk ((by rw [hg]; exact (below_size (by repeat (first | (with_reducible first | exact HB.out | apply below_alloc | apply pw_below_drewN | apply below_drew1) | exact HB.out))) : w.heap.size ≤ gb151)); clear HO0_0; clear HB; have HO0_0 := n0_; have HB := n1_; have BK151 := n2_; have GW151 := n3_; have GE151 := n4_; clear n0_ n1_ n2_ n3_ n4_; clear hb hbox hg) | ((with_reducible refine gate_dst (N := 5) rfl ?_); (try (refine gate_guard (by rfl) ?_; dsimp only)); refine box_event ?hg (N := 5) ?hd (cs := #[.slice none 0 0, .int .i64 0]) (t := 28) ?hr ?_; (case hd => rfl); (case hg => rfl); (case hr => first | (go_simp; done) | (go_simp; rfl)); intro gb152 hg w20 hbox hb; have n0_ := Aside0.mk (Kd.V_below (Kd.V_elderB (by (with_reducible repeat (first | apply Kd.V_alloc | apply Kd.V_drewN | apply Kd.V_drew)); exact HO0_0.out) gb152 (Nat.le_of_eq hg.symm)) hb); have n1_ := Aside0.mk (blk_below (g := gb151) (o := .cells #[.slice A0_0 l0_0.length c0_0, .int .i64 a0_1] 28 (0, 0)) (by (with_reducible repeat (first | refine blk_drewN ?_ _ | refine blk_drew ?_ | refine blk_alloc ?_ _)); exact BK151.out) hb); have n2_ := Aside0.mk (below_step (by repeat (first | (with_reducible first | exact HB.out | apply below_alloc | apply pw_below_drewN | apply below_drew1 | refine below_set ?_ GE151.out) | exact HB.out)) hb); have n3_ := Aside0.mk (hbox); have n4_ := Aside0.mk ((by rw [hg]; exact (below_size (by repeat (first | (with_reducible first | exact HB.out | apply below_alloc | apply pw_below_drewN | apply below_drew1 | refine below_set ?_ GE151.out) | exact HB.out))) : w.heap.size ≤ gb152)); have n5_ := Aside0.mk ((by rw [hg]; exact (below_size (by repeat (first | (with_reducible first | exact HB.out | apply below_alloc | apply pw_below_drewN | apply below_drew1 | refine below_set ?_ GE151.out) | exact HB.out))) : w.heap.size ≤ gb152)); have n6_ := Aside0.mk ((by rw [hg]; exact Nat.ne_of_lt (blk_lt (g := gb151) (o := .cells #[.slice A0_0 l0_0.length c0_0, .int .i64 a0_1] 28 (0, 0)) (by (with_reducible repeat (first | refine blk_drewN ?_ _ | refine blk_drew ?_ | refine blk_alloc ?_ _)); exact BK151.out)) : gb151 ≠ gb152)); have n7_ := Aside0.mk ((by rw [hg]; exact Nat.ne_of_gt (blk_lt (g := gb151) (o := .cells #[.slice A0_0 l0_0.length c0_0, .int .i64 a0_1] 28 (0, 0)) (by (with_reducible repeat (first | refine blk_drewN ?_ _ | refine blk_drew ?_ | refine blk_alloc ?_ _)); exact BK151.out)) : gb152 ≠ gb151)); clear HO0_0; clear BK151; clear HB; have HO0_0 := n0_; have BK151 := n1_; have HB := n2_; have BK152 := n3_; have GW152 := n4_; have GE152 := n5_; have NB151_152 := n6_; have NB152_151 := n7_; clear n0_ n1_ n2_ n3_ n4_ n5_ n6_ n7_; clear hb hbox hg; have hnb21 := NB151_152.out; have hnc21 := NB152_151.out; have hcz22_0 : w20.cell? ⟨gb151, 0, none⟩ = some (.slice A0_0 l0_0.length c0_0) := (blk_cell BK151.out 0).trans rfl; have hcz22_1 : w20.cell? ⟨gb151, 1, none⟩ = some (.int .i64 a0_1) := (blk_cell BK151.out 1).trans rfl; have hfz22_0 := blk_frozen BK151.out 0; have hfz22_1 := blk_frozen BK151.out 1) | ((with_reducible refine gate_callee (f := 16) rfl ?_); refine goesL_ (some 17) rfl rfl Try.func16 (by kernel_rfl) rfl #[.agg #[.slice A0_0 l0_0.length c0_0, .int .i64 a0_1]] rfl (by (try simp only [List.map_toArray, List.map_cons, List.map_nil]); first | done | rfl | (simp only [List.length_drop, List.length_take]; rfl)) ?_; (with_reducible refine (draw_Left.calls _ _ l0_0 a0_1 t153 _ ?side1 ?side2 A3.out).mono ?_); (case side1 => repeat (first | exact (Kd.V_reads' HO0_0.out).2.2 | (with_reducible refine Kd.C_alloc ?_ _) | (with_reducible refine Kd.C_drewN ?_ _) | (with_reducible refine Kd.C_drew ?_))); (case side2 => exact (Kd.V_reads' HO0_0.out).2.1); rintro e w23 ⟨rfl, hb⟩; refine ⟨_, rfl, ?_⟩; have n0_ := Aside0.mk (Kd.V_below (by (with_reducible repeat (first | apply Kd.V_alloc | apply Kd.V_drewN | apply Kd.V_drew)); exact HO0_0.out) hb); have n1_ := Aside0.mk (blk_below (g := gb151) (o := .cells #[.slice A0_0 l0_0.length c0_0, .int .i64 a0_1] 28 (0, 0)) (by (with_reducible repeat (first | refine blk_drewN ?_ _ | refine blk_drew ?_ | refine blk_alloc ?_ _)); exact BK151.out) hb); have n2_ := Aside0.mk (blk_below (g := gb152) (o := .cells #[.slice none 0 0, .int .i64 0] 28 (0, 0)) (by (with_reducible repeat (first | refine blk_drewN ?_ _ | refine blk_drew ?_ | refine blk_alloc ?_ _)); exact BK152.out) hb); have n3_ := Aside0.mk (below_step (by repeat (first | (with_reducible first | exact HB.out | apply below_alloc | apply pw_below_drewN | apply below_drew1 | refine below_set ?_ GE151.out | refine below_set ?_ GE152.out) | exact HB.out)) hb); clear HO0_0; clear BK151; clear BK152; clear HB; have HO0_0 := n0_; have BK151 := n1_; have BK152 := n2_; have HB := n3_; clear n0_ n1_ n2_ n3_; (try clear hb); (try clear hb2); (try clear hk); (try clear hi)) | ((with_reducible refine gate_dst (N := 23) rfl ?_); (try (refine gate_guard (by rfl) ?_; dsimp only)); refine Kd.R_make2 (Kd.int .u32) _ 48 rfl (N := 23) rfl 25 _ _ rfl .i64 .i64 0 ji13 rfl rfl Try.underlying25 (.int .u32 0) 4 info48 rfl (by decide) (by omega) 0 (ok := fun _ => True) (okp := fun _ => True) rfl (fun _ hk => hk) trivial (by first | decide | omega | exact of_decide_eq_true (by first | (with_reducible assumption) | assumption)) (by first | decide | omega | exact of_decide_eq_true (by first | (with_reducible assumption) | assumption)) (Nat.le_trans (Nat.mul_le_mul_right _ (of_decide_eq_true (by first | (with_reducible assumption) | assumption) : (ji13 : Int).toNat ≤ 70368744177664)) (by omega)) (Below.refl _ _) (Nat.le_refl _) ?_; intro v155 w24 ho25 hb hg_ hnew_; clear hg_ hnew_; (first | rw [← Ny154.out] at ho25 | (simp only [Int.reduceToNat] at ho25; rw [← Ny154.out] at ho25)); have n0_ := Aside0.mk (Kd.V_elder' (by (with_reducible repeat (first | apply Kd.V_alloc | apply Kd.V_drewN | apply Kd.V_drew)); exact HO0_0.out) (Kd.R_base ho25) hb); have n1_ := Aside0.mk (Kd.R_lower (Kd.R_newM (M := fun k_ => (w.heap.size ≤ k_)) ho25 (below_size (by repeat (first | (with_reducible first | exact HB.out | apply below_alloc | apply pw_below_drewN | apply below_drew1 | refine below_set ?_ GE151.out | refine below_set ?_ GE152.out) | exact HB.out))) (fun k_ h_ => h_)) (below_size (by repeat (first | (with_reducible first | exact HB.out | apply below_alloc | apply pw_below_drewN | apply below_drew1 | refine below_set ?_ GE151.out | refine below_set ?_ GE152.out) | exact HB.out)))); have n2_ := Aside0.mk (blk_below (g := gb151) (o := .cells #[.slice A0_0 l0_0.length c0_0, .int .i64 a0_1] 28 (0, 0)) (by (with_reducible repeat (first | refine blk_drewN ?_ _ | refine blk_drew ?_ | refine blk_alloc ?_ _)); exact BK151.out) hb); have n3_ := Aside0.mk (blk_below (g := gb152) (o := .cells #[.slice none 0 0, .int .i64 0] 28 (0, 0)) (by (with_reducible repeat (first | refine blk_drewN ?_ _ | refine blk_drew ?_ | refine blk_alloc ?_ _)); exact BK152.out) hb); have n4_ := Aside0.mk (below_step (by repeat (first | (with_reducible first | exact HB.out | apply below_alloc | apply pw_below_drewN | apply below_drew1 | refine below_set ?_ GE151.out | refine below_set ?_ GE152.out) | exact HB.out)) hb); clear HO0_0; clear BK151; clear BK152; clear HB; have HO0_0 := n0_; have HO156 := n1_; have BK151 := n2_; have BK152 := n3_; have HB := n4_; clear n0_ n1_ n2_ n3_ n4_; clear hb ho25; have hcz26_0 : w24.cell? ⟨gb151, 0, none⟩ = some (.slice A0_0 l0_0.length c0_0) := (blk_cell BK151.out 0).trans rfl; have hcz26_1 : w24.cell? ⟨gb151, 1, none⟩ = some (.int .i64 a0_1) := (blk_cell BK151.out 1).trans rfl; have hfz26_0 := blk_frozen BK151.out 0; have hfz26_1 := blk_frozen BK151.out 1; have q27 : ((wrap64 (a0_1 + (wrap64 (Int.tdiv (wrap64 ((wrap64 (a1 + 64)) - 1)) 64)))) : Int) ≤ ((l0_0.length : Int) : Int) := of_decide_eq_true (by first | (with_reducible assumption) | assumption); obtain ⟨i027, hi027, _, hsz27, _⟩ := info_parts info23; have hroom27 : l0_0.length ≤ c0_0 := (Kd.V_reads' HO0_0.out).2.1; have hC27 : Kd.F (Kd.int .u64) _ _ A0_0 l0_0.length l0_0 := (Kd.V_at (base := w.heap.size) HO0_0.out).2.2; have ql27 : (a0_1 : Int) ≤ ((wrap64 (a0_1 + (wrap64 (Int.tdiv (wrap64 ((wrap64 (a1 + 64)) - 1)) 64)))) : Int) := of_decide_eq_true (by first | (with_reducible assumption) | assumption); have q027 : (0 : Int) ≤ (a0_1 : Int) := of_decide_eq_true (by first | (with_reducible assumption) | assumption); have hcut27 := cut_mid (P := Try.prog) 22 23 .i64 .i64 Try.underlying22 hi027 1 hsz27 A0_0 l0_0.length c0_0 a0_1 (wrap64 (a0_1 + (wrap64 (Int.tdiv (wrap64 ((wrap64 (a1 + 64)) - 1)) 64)))) q027 ql27 q27 hroom27; have hr27 := Kd.F_mid (lo := (a0_1 : Int).toNat) (hi := ((wrap64 (a0_1 + (wrap64 (Int.tdiv (wrap64 ((wrap64 (a1 + 64)) - 1)) 64)))) : Int).toNat) (c := c0_0) hC27 (by omega) (by omega) hroom27; obtain ⟨A27, hA27⟩ : ∃ A1, A1 = (if c0_0 = (a0_1 : Int).toNat then A0_0 else (A0_0 : Option Addr).map (·.add ((a0_1 : Int).toNat * 1))) := ⟨_, rfl⟩; obtain ⟨c27, hc27⟩ : ∃ c1, c1 = c0_0 - (a0_1 : Int).toNat := ⟨_, rfl⟩; have hy27 : y157.length = ((wrap64 (a0_1 + (wrap64 (Int.tdiv (wrap64 ((wrap64 (a1 + 64)) - 1)) 64)))) : Int).toNat - (a0_1 : Int).toNat := (by rw [Ny157.out, List.length_drop, List.length_take] <;> omega); rw [show ((l0_0).take ((wrap64 (a0_1 + (wrap64 (Int.tdiv (wrap64 ((wrap64 (a1 + 64)) - 1)) 64)))) : Int).toNat).drop (a0_1 : Int).toNat = y157 from Ny157.out.symm] at hr27; replace hr27 : Kd.F (Kd.int .u64) _ _ A27 y157.length y157 := (by rw [hA27]; exact hr27); rw [← hy27, ← hA27, ← hc27] at hcut27; have HO161 := Aside0.mk (show Kd.V (Kd.int .u64) 23 _ w.heap.size _ (.slice A27 y157.length c27) y157 from Kd.V_mk (by rw [hy27, hc27]; exact Nat.sub_le_sub_right (Nat.le_trans (by omega) hroom27) _) hr27); have HC161 := Aside0.mk (show y157.length ≤ c27 from by rw [hy27, hc27]; exact Nat.sub_le_sub_right (Nat.le_trans (by omega) hroom27) _); clear hr27 hC27 hroom27 hi027 hsz27 hc27; have KY27 := Aside0.mk hy27; have KA27 := Aside0.mk hA27; clear hy27 hA27; replace q27 := eq_true q27))
       go_loopg [1, 8, 34] k (fun kq v1 v8 v34 w' => ∃ (x1_1 : Int) (x8_1 : List Int) (x34_1 : Int), v1 = .int .i64 x1_1 ∧ v34 = .int .i64 x34_1 ∧ Aside0 (draw_attempt.l0 kq x1_1 (wrap64 (Int.tdiv (wrap64 ((wrap64 (a1 + 64)) - 1)) 64)) x8_1 y157 (y157.length : Int) x34_1 l0_0 a0_1 = some (r1, r2, r3, r4)) ∧ Aside0 (kq ≤ k) ∧ Aside0 (Kd.R (Kd.int .u32) 48 w' w.heap.size (fun k_ => (w.heap.size ≤ k_)) v8 x8_1) ∧ Aside0 (Kd.V (Kd.int .u64) 23 w' w.heap.size (fun k_ => (P0_0_ k_ ∨ w.heap.size ≤ k_) ∧ some k_ ≠ (v8 : Value).ownBlock ∧ k_ ≠ gb151 ∧ k_ ≠ gb152) (.slice A27 y157.length c27) y157) ∧ Aside0 (Kd.V (Kd.int .u64) 23 w' w.heap.size (fun k_ => (P0_0_ k_ ∨ w.heap.size ≤ k_) ∧ some k_ ≠ (v8 : Value).ownBlock ∧ k_ ≠ gb151 ∧ k_ ≠ gb152) (.slice A0_0 l0_0.length c0_0) l0_0) ∧ Aside0 (w'.heap[gb151]? = some (.cells #[(.slice A0_0 l0_0.length c0_0), .int .i64 a0_1] 28 (0, 0))) ∧ Aside0 (w'.heap[gb152]? = some (.cells #[(.slice none 0 0), .int .i64 0] 28 (0, 0))) ∧ Aside0 (Below w.heap.size w w'))
       case atStart => exact ⟨(a1), (y154), (0), (by first | rfl | (simp; done) | (simp [*]; done)), (by first | rfl | (simp; done) | (simp [*]; done)), H', ⟨Nat.le_refl _⟩, ⟨by (with_reducible repeat (first | apply Kd.R_alloc | apply Kd.R_drewN | apply Kd.R_drew)); exact Kd.R_mono HO156.out (fun _ hk => hk.1)⟩, ⟨by (with_reducible repeat (first | apply Kd.V_alloc | apply Kd.V_drewN | apply Kd.V_drew)); exact Kd.V_mono HO161.out (fun _ hk => ⟨hk.1.1.1, ⟨hk.2, ⟨hk.1.1.2, hk.1.2⟩⟩⟩)⟩, ⟨by (with_reducible repeat (first | apply Kd.V_alloc | apply Kd.V_drewN | apply Kd.V_drew)); exact Kd.V_mono HO0_0.out (fun _ hk => ⟨hk.1.1.1, ⟨hk.2, ⟨hk.1.1.2, hk.1.2⟩⟩⟩)⟩, ⟨by (with_reducible repeat (first | refine blk_drewN ?_ _ | refine blk_drew ?_ | refine blk_alloc ?_ _)); exact BK151.out⟩, ⟨by (with_reducible repeat (first | refine blk_drewN ?_ _ | refine blk_drew ?_ | refine blk_alloc ?_ _)); exact BK152.out⟩, ⟨by repeat (first | (with_reducible first | exact HB.out | apply below_alloc | apply pw_below_drewN | apply below_drew1 | refine below_set ?_ GE151.out | refine below_set ?_ GE152.out) | exact HB.out)⟩⟩
       case round =>
        clear H'
        try clear c1
        try clear c2
        try clear p2
        try clear q2
        try clear c4
        try clear c4b0
        try clear p6
        try clear c7
        try clear c14
        try clear c14b0
        try clear c14b1
        try clear c15
        try clear c15b0
        try clear c15b1
        try clear c16
        try clear c16b0
        try clear c16b1
        try clear c17
        try clear c17b0
        try clear c17b1
        try clear c18
        try clear c18b0
        try clear c18b1
        try clear c21
        try clear c27
        try clear q27
        try clear hcz22_0
        try clear hcz22_1
        try clear hcz26_0
        try clear hcz26_1
        try clear hcz8_0
        try clear hcz8_1
        try clear hfz22_0
        try clear hfz22_1
        try clear hfz26_0
        try clear hfz26_1
        try clear hfz8_0
        try clear hfz8_1
        try clear q027
        try clear q27
        obtain ⟨x1_1, x8_1, x34_1, rfl, rfl, HA, HK1, HO_8, HO_32, HO_152000, BK151, BK152, HB⟩ := hrel
        cases gk with
        | zero => exact absurd HA.out (by simp [draw_attempt.l0])
        | succ k1 =>
         have H := HA.out
         clear HA
         simp only [draw_attempt.l0] at H
         by_cases c28 : x34_1 < (y157.length : Int)
         ·
          rw [if_pos c28] at H
          have c28b0 : decide (x34_1 < (y157.length : Int)) = true := decide_eq_true c28
          clear c28
          by_cases c29 : 0 ≤ x34_1
          ·
           rw [if_pos c29] at H
           have c29b0 : decide (0 ≤ x34_1) = true := decide_eq_true c29
           clear c29
           by_cases c30 : x34_1 < (y157.length : Int)
           ·
            rw [if_pos c30] at H
            have c30b0 : decide (x34_1 < (y157.length : Int)) = true := decide_eq_true c30
            clear c30
            obtain ⟨ji31, hji31⟩ : ∃ j_ : Int, (mn x1_1 64) = j_ := ⟨_, rfl⟩
            replace H : (if 0 ≤ (ji31) then ((some (([(Go.bits .and .u64 (rd y157 x34_1) (IntKind.u64.wrap ((shl .u64 1 (ji31)) - 1))) % 4294967296, ((Go.bits .and .u64 (rd y157 x34_1) (IntKind.u64.wrap ((shl .u64 1 (ji31)) - 1))) / 4294967296) % 4294967296] : List Int) : List Int)).bind fun y163 => (if x8_1.length + y163.length < 35184372088832 then (draw_attempt.l0 k1 (wrap64 (x1_1 - (ji31))) (wrap64 (Int.tdiv (wrap64 ((wrap64 (a1 + 64)) - 1)) 64)) (x8_1 ++ y163) y157 (y157.length : Int) (wrap64 (x34_1 + 1)) l0_0 a0_1) else (none))) else (none)) = some (r1, r2, r3, r4) := by first | (rw [hji31] at H; exact H) | (simp only [hji31] at H ⊢; exact H)
            have hji31_ : (if 64 < x1_1 then 64 else x1_1) = ji31 := hji31
            by_cases c32 : 0 ≤ (ji31)
            ·
             rw [if_pos c32] at H
             have c32b0 := eq_true c32
             have c32b1 : decide (0 ≤ (ji31)) = true := decide_eq_true c32
             clear c32
             obtain ⟨ji33, hji33⟩ : ∃ j_ : Int, (shl .u64 1 (ji31)) = j_ := ⟨_, rfl⟩
             replace H : ((some (([(Go.bits .and .u64 (rd y157 x34_1) (IntKind.u64.wrap ((ji33) - 1))) % 4294967296, ((Go.bits .and .u64 (rd y157 x34_1) (IntKind.u64.wrap ((ji33) - 1))) / 4294967296) % 4294967296] : List Int) : List Int)).bind fun y163 => (if x8_1.length + y163.length < 35184372088832 then (draw_attempt.l0 k1 (wrap64 (x1_1 - (ji31))) (wrap64 (Int.tdiv (wrap64 ((wrap64 (a1 + 64)) - 1)) 64)) (x8_1 ++ y163) y157 (y157.length : Int) (wrap64 (x34_1 + 1)) l0_0 a0_1) else (none))) = some (r1, r2, r3, r4) := by first | (rw [hji33] at H; exact H) | (simp only [hji33] at H ⊢; exact H)
             have hji33_ : (IntKind.u64.wrap (1 * 2 ^ min (ji31).toNat 64)) = ji33 := hji33
             have hji33z : (ji31) ≤ 64 → (IntKind.u64.wrap (1 * 2 ^ (ji31).toNat)) = ji33 := shl_small hji33
             have hji33u : (IntKind.u64.wrap (2 ^ min (ji31).toNat 64)) = ji33 := by have h_ := hji33_; rw [Int.one_mul] at h_; exact h_
             have hji33v : (ji31) ≤ 64 → (IntKind.u64.wrap (2 ^ (ji31).toNat)) = ji33 := fun hle_ => by have h_ := hji33z hle_; rw [Int.one_mul] at h_; exact h_
             obtain ⟨y163, hy163⟩ : ∃ y_ : List Int, y_ = (([(Go.bits .and .u64 (rd y157 x34_1) (IntKind.u64.wrap ((ji33) - 1))) % 4294967296, ((Go.bits .and .u64 (rd y157 x34_1) (IntKind.u64.wrap ((ji33) - 1))) / 4294967296) % 4294967296] : List Int)) := ⟨_, rfl⟩
             replace H : (if x8_1.length + y163.length < 35184372088832 then (draw_attempt.l0 k1 (wrap64 (x1_1 - (ji31))) (wrap64 (Int.tdiv (wrap64 ((wrap64 (a1 + 64)) - 1)) 64)) (x8_1 ++ y163) y157 (y157.length : Int) (wrap64 (x34_1 + 1)) l0_0 a0_1) else (none)) = some (r1, r2, r3, r4) := by first | (rw [hy163]; with_reducible exact H) | (have H2_ := (Option.bind_some _ _).symm.trans H; rw [hy163]; with_reducible exact H2_) | (have H2_ := (Option.bind_some _ _).symm.trans H; with_reducible exact H2_) | with_reducible exact H | (rw [hy163]; exact H) | exact H
             have Ny163 := Aside0.mk hy163
             clear hy163
             by_cases c34 : x8_1.length + y163.length < 35184372088832
             ·
              rw [if_pos c34] at H
              have LMc34 := Aside0.mk c34
              clear c34
              obtain ⟨y166, hy166⟩ : ∃ y_ : List Int, y_ = (x8_1 ++ y163) := ⟨_, rfl⟩
              replace H : (draw_attempt.l0 k1 (wrap64 (x1_1 - (ji31))) (wrap64 (Int.tdiv (wrap64 ((wrap64 (a1 + 64)) - 1)) 64)) y166 y157 (y157.length : Int) (wrap64 (x34_1 + 1)) l0_0 a0_1) = some (r1, r2, r3, r4) := by first | (rw [hy166]; with_reducible exact H) | (have H2_ := (Option.bind_some _ _).symm.trans H; rw [hy166]; with_reducible exact H2_) | (have H2_ := (Option.bind_some _ _).symm.trans H; with_reducible exact H2_) | with_reducible exact H | (rw [hy166]; exact H) | exact H
              have Ny166 := Aside0.mk hy166
              clear hy166
              have H' := Aside0.mk H
              clear H
              have p162 : 0 ≤ (x34_1 : Int) := of_decide_eq_true (by first | (with_reducible assumption) | assumption)
              have q162 : x34_1 < (y157.length : Int) := of_decide_eq_true (by first | (with_reducible assumption) | assumption)
              obtain ⟨ad162, e162, hx162_0⟩ := Kd.at_int (Kd.V_reads' HO_32.out).2.2 x34_1 p162 q162
              cases e162
              replace p162 := eq_true p162
              replace q162 := eq_true q162
              go_wp2_with (first | ((with_reducible refine gate_dst (N := 51) rfl ?_); (try (refine gate_guard (by rfl) ?_; dsimp only)); refine Kd.R_lit (Kd.int .u32) _ 48 ?hg (N := 51) ?hd (xs := ([(Go.bits .and .u64 (rd y157 x34_1) (IntKind.u64.wrap ((ji33) - 1))) % 4294967296, ((Go.bits .and .u64 (rd y157 x34_1) (IntKind.u64.wrap ((ji33) - 1))) / 4294967296) % 4294967296] : List Int)) (inner := [.int .u32 ((Go.bits .and .u64 (rd y157 x34_1) (IntKind.u64.wrap ((ji33) - 1))) % 4294967296), .int .u32 (((Go.bits .and .u64 (rd y157 x34_1) (IntKind.u64.wrap ((ji33) - 1))) / 4294967296) % 4294967296)]) (ok := fun _ => True) (okp := fun _ => True) ?hr ?hp (fun _ hk => hk) trivial (Below.refl _ _) (Nat.le_refl _) (by simp) ?_; (case hd => rfl); (case hg => rfl); (case hr => first | (go_simp; done) | (go_simp; rfl)); (case hp => exact (Reps.one (show Kd.M (Kd.int .u32) _ _ _ ((Go.bits .and .u64 (rd y157 x34_1) (IntKind.u64.wrap ((ji33) - 1))) % 4294967296) [.int .u32 ((Go.bits .and .u64 (rd y157 x34_1) (IntKind.u64.wrap ((ji33) - 1))) % 4294967296)] from rfl) (Reps.one (show Kd.M (Kd.int .u32) _ _ _ (((Go.bits .and .u64 (rd y157 x34_1) (IntKind.u64.wrap ((ji33) - 1))) / 4294967296) % 4294967296) [.int .u32 (((Go.bits .and .u64 (rd y157 x34_1) (IntKind.u64.wrap ((ji33) - 1))) / 4294967296) % 4294967296)] from rfl) (Reps.none _ _)))); intro v164 w35 ho36 hb hg_ hnew_; clear hg_ hnew_; (first | rw [← Ny163.out] at ho36 | (simp only [Int.reduceToNat] at ho36; rw [← Ny163.out] at ho36)); have n0_ := Aside0.mk (Kd.R_elder' (by (with_reducible repeat (first | apply Kd.R_alloc | apply Kd.R_drewN | apply Kd.R_drew)); exact HO_8.out) (Kd.R_base ho36) hb); have n1_ := Aside0.mk (Kd.V_elder' (by (with_reducible repeat (first | apply Kd.V_alloc | apply Kd.V_drewN | apply Kd.V_drew)); exact HO_32.out) (Kd.R_base ho36) hb); have n2_ := Aside0.mk (Kd.V_elder' (by (with_reducible repeat (first | apply Kd.V_alloc | apply Kd.V_drewN | apply Kd.V_drew)); exact HO_152000.out) (Kd.R_base ho36) hb); have n3_ := Aside0.mk (Kd.R_lower (Kd.R_new' (Kd.R_newM (M := fun k_ => (w.heap.size ≤ k_)) ho36 (below_size (by repeat (first | (with_reducible first | exact HB.out | apply below_alloc | apply pw_below_drewN | apply below_drew1 | refine below_set ?_ GE151.out | refine below_set ?_ GE152.out) | exact HB.out))) (fun k_ h_ => h_)) (Kd.R_lt (by (with_reducible repeat (first | apply Kd.R_alloc | apply Kd.R_drewN | apply Kd.R_drew)); exact HO_8.out))) (below_size (by repeat (first | (with_reducible first | exact HB.out | apply below_alloc | apply pw_below_drewN | apply below_drew1 | refine below_set ?_ GE151.out | refine below_set ?_ GE152.out) | exact HB.out)))); have n4_ := Aside0.mk (blk_below (g := gb151) (o := .cells #[.slice A0_0 l0_0.length c0_0, .int .i64 a0_1] 28 (0, 0)) (by (with_reducible repeat (first | refine blk_drewN ?_ _ | refine blk_drew ?_ | refine blk_alloc ?_ _)); exact BK151.out) hb); have n5_ := Aside0.mk (blk_below (g := gb152) (o := .cells #[.slice none 0 0, .int .i64 0] 28 (0, 0)) (by (with_reducible repeat (first | refine blk_drewN ?_ _ | refine blk_drew ?_ | refine blk_alloc ?_ _)); exact BK152.out) hb); have n6_ := Aside0.mk (below_step (by repeat (first | (with_reducible first | exact HB.out | apply below_alloc | apply pw_below_drewN | apply below_drew1 | refine below_set ?_ GE151.out | refine below_set ?_ GE152.out) | exact HB.out)) hb); clear HO_8; clear HO_32; clear HO_152000; clear BK151; clear BK152; clear HB; have HO_8 := n0_; have HO_32 := n1_; have HO_152000 := n2_; have HO165 := n3_; have BK151 := n4_; have BK152 := n5_; have HB := n6_; clear n0_ n1_ n2_ n3_ n4_ n5_ n6_; clear hb ho36; obtain ⟨Ao38, co38, eo38⟩ := Kd.R_slice HO165.out; subst eo38) | ((with_reducible refine gate_builtin (b := .append) (xs := #[.tmp 45, .tmp 51]) rfl ?_); (try (refine gate_guard (by rfl) ?_; dsimp only)); at_builtin; refine Kd.R_append_rows (Kd.int .u32) (w0 := w) w.heap.size rfl (.tmp 45) (.tmp 51) 25 48 (.int .u32 0) 4 rfl Try.underlying25 info48 rfl (by decide) (by omega) u8 x8_1 y163 _ _ _ (fun k_ => (w.heap.size ≤ k_) ∧ some k_ ≠ (.slice Ao38 y163.length co38 : Value).ownBlock) (fun _ => False) rfl rfl ?aO ?aR (fun _ _ h => h) (fun _ h => h.elim) ?aF ?aB ?aS ?aL ?_; (case aR => repeat (first | exact (Kd.R_reads' HO165.out).2.2 | (with_reducible refine Kd.C_alloc ?_ _) | (with_reducible refine Kd.C_drewN ?_ _) | (with_reducible refine Kd.C_drew ?_))); (case aB => exact (by repeat (first | (with_reducible first | exact HB.out | apply below_alloc | apply pw_below_drewN | apply below_drew1 | refine below_set ?_ GE151.out | refine below_set ?_ GE152.out) | exact HB.out))); (case aF => exact (fun k_ hk => ⟨(Nat.le_trans (below_size (by repeat (first | (with_reducible first | exact HB.out | apply below_alloc | apply pw_below_drewN | apply below_drew1 | refine below_set ?_ GE151.out | refine below_set ?_ GE152.out) | exact HB.out))) hk), Kd.fresh' (Kd.R_lt (by (with_reducible repeat (first | apply Kd.R_alloc | apply Kd.R_drewN | apply Kd.R_drew)); exact HO165.out)) k_ hk⟩)); (case aO => exact (by (with_reducible repeat (first | apply Kd.R_alloc | apply Kd.R_drewN | apply Kd.R_drew)); exact HO_8.out)); (case aS => exact (below_size (by repeat (first | (with_reducible first | exact HB.out | apply below_alloc | apply pw_below_drewN | apply below_drew1 | refine below_set ?_ GE151.out | refine below_set ?_ GE152.out) | exact HB.out)))); (case aL => have := LMc34.out; omega); intro v167 w37 ho hb hg hat; rw [← Ny166.out] at ho; have n0_ := Aside0.mk (Kd.V_afterv (ok := (fun k_ => (P0_0_ k_ ∨ w.heap.size ≤ k_) ∧ some k_ ≠ (.slice Ao38 y163.length co38 : Value).ownBlock ∧ k_ ≠ gb151 ∧ k_ ≠ gb152)) (by (with_reducible repeat (first | apply Kd.V_alloc | apply Kd.V_drewN | apply Kd.V_drew)); exact Kd.V_mono HO_32.out (fun _ hk => ⟨⟨hk.1.1, ⟨hk.2, ⟨hk.1.2.2.1, hk.1.2.2.2⟩⟩⟩, hk.1.2.1⟩)) hg hat); have n1_ := Aside0.mk (Kd.V_afterv (ok := (fun k_ => (P0_0_ k_ ∨ w.heap.size ≤ k_) ∧ some k_ ≠ (.slice Ao38 y163.length co38 : Value).ownBlock ∧ k_ ≠ gb151 ∧ k_ ≠ gb152)) (by (with_reducible repeat (first | apply Kd.V_alloc | apply Kd.V_drewN | apply Kd.V_drew)); exact Kd.V_mono HO_152000.out (fun _ hk => ⟨⟨hk.1.1, ⟨hk.2, ⟨hk.1.2.2.1, hk.1.2.2.2⟩⟩⟩, hk.1.2.1⟩)) hg hat); have n2_ := Aside0.mk (blk_grown (g := gb151) (o := .cells #[.slice A0_0 l0_0.length c0_0, .int .i64 a0_1] 28 (0, 0)) (by (with_reducible repeat (first | refine blk_drewN ?_ _ | refine blk_drew ?_ | refine blk_alloc ?_ _)); exact BK151.out) hg (Kd.R_ne HO_8.out BK151.out (by decide))); have n3_ := Aside0.mk (blk_grown (g := gb152) (o := .cells #[.slice none 0 0, .int .i64 0] 28 (0, 0)) (by (with_reducible repeat (first | refine blk_drewN ?_ _ | refine blk_drew ?_ | refine blk_alloc ?_ _)); exact BK152.out) hg (Kd.R_ne HO_8.out BK152.out (by decide))); have n4_ := Aside0.mk (Kd.R_after (ok := (fun k_ => (w.heap.size ≤ k_))) (by (with_reducible repeat (first | apply Kd.R_alloc | apply Kd.R_drewN | apply Kd.R_drew)); exact Kd.R_mono HO165.out (fun _ hk => ⟨hk.1.1, hk.2⟩)) hg hat); have n5_ := Aside0.mk (hb); have n6_ := Aside0.mk (ho); clear HO_32; clear HO_152000; clear BK151; clear BK152; clear HO165; clear HB; clear HO_8; have HO_32 := n0_; have HO_152000 := n1_; have BK151 := n2_; have BK152 := n3_; have HO165 := n4_; have HB := n5_; have HO168 := n6_; clear n0_ n1_ n2_ n3_ n4_ n5_ n6_; clear ho hb hg hat))
              go_roundg k1
              case measure => have := HK1.out; omega
              case rel => exact ⟨(wrap64 (x1_1 - (ji31))), (y166), (wrap64 (x34_1 + 1)), (by first | rfl | (simp; done) | (simp only [← hji31] <;> (first | rfl | simp)) | (simp [*]; done)), (by first | rfl | (simp; done) | (simp [*]; done)), H', ⟨by have := HK1.out; omega⟩, ⟨by (with_reducible repeat (first | apply Kd.R_alloc | apply Kd.R_drewN | apply Kd.R_drew)); exact Kd.R_mono HO168.out (fun _ hk => hk.1)⟩, ⟨by (with_reducible repeat (first | apply Kd.V_alloc | apply Kd.V_drewN | apply Kd.V_drew)); exact Kd.V_mono HO_32.out (fun _ hk => ⟨hk.1.1, ⟨hk.2, ⟨hk.1.2.2.1, hk.1.2.2.2⟩⟩⟩)⟩, ⟨by (with_reducible repeat (first | apply Kd.V_alloc | apply Kd.V_drewN | apply Kd.V_drew)); exact Kd.V_mono HO_152000.out (fun _ hk => ⟨hk.1.1, ⟨hk.2, ⟨hk.1.2.2.1, hk.1.2.2.2⟩⟩⟩)⟩, ⟨by (with_reducible repeat (first | refine blk_drewN ?_ _ | refine blk_drew ?_ | refine blk_alloc ?_ _)); exact BK151.out⟩, ⟨by (with_reducible repeat (first | refine blk_drewN ?_ _ | refine blk_drew ?_ | refine blk_alloc ?_ _)); exact BK152.out⟩, ⟨by repeat (first | (with_reducible first | exact HB.out | apply below_alloc | apply pw_below_drewN | apply below_drew1 | refine below_set ?_ GE151.out | refine below_set ?_ GE152.out) | exact HB.out)⟩⟩
             ·
              rw [if_neg c34] at H
              exact absurd H (by simp)
            ·
             rw [if_neg c32] at H
             exact absurd H (by simp)
           ·
            rw [if_neg c30] at H
            exact absurd H (by simp)
          ·
           rw [if_neg c29] at H
           exact absurd H (by simp)
         ·
          rw [if_neg c28] at H
          have c28b0 : decide (x34_1 < (y157.length : Int)) = false := decide_eq_false c28
          clear c28
          have H' := Aside0.mk H
          clear H
          go_wp2
          go_loopg [8] k1 (fun kq v8 w' => ∃ (x8_2 : List Int), Aside0 (draw_attempt.l1 kq (wrap64 (Int.tdiv (wrap64 ((wrap64 (a1 + 64)) - 1)) 64)) x8_2 l0_0 a0_1 = some (r1, r2, r3, r4)) ∧ Aside0 (kq ≤ k1) ∧ Aside0 (Kd.R (Kd.int .u32) 48 w' w.heap.size (fun k_ => (w.heap.size ≤ k_)) v8 x8_2) ∧ Aside0 (Kd.V (Kd.int .u64) 23 w' w.heap.size (fun k_ => (P0_0_ k_ ∨ w.heap.size ≤ k_) ∧ some k_ ≠ (v8 : Value).ownBlock ∧ k_ ≠ gb151 ∧ k_ ≠ gb152) (.slice A0_0 l0_0.length c0_0) l0_0) ∧ Aside0 (w'.heap[gb151]? = some (.cells #[(.slice A0_0 l0_0.length c0_0), .int .i64 a0_1] 28 (0, 0))) ∧ Aside0 (w'.heap[gb152]? = some (.cells #[(.slice none 0 0), .int .i64 0] 28 (0, 0))) ∧ Aside0 (Below w.heap.size w w'))
          case atStart => exact ⟨(x8_1), H', ⟨Nat.le_refl _⟩, ⟨by (with_reducible repeat (first | apply Kd.R_alloc | apply Kd.R_drewN | apply Kd.R_drew)); exact HO_8.out⟩, ⟨by (with_reducible repeat (first | apply Kd.V_alloc | apply Kd.V_drewN | apply Kd.V_drew)); exact HO_152000.out⟩, ⟨by (with_reducible repeat (first | refine blk_drewN ?_ _ | refine blk_drew ?_ | refine blk_alloc ?_ _)); exact BK151.out⟩, ⟨by (with_reducible repeat (first | refine blk_drewN ?_ _ | refine blk_drew ?_ | refine blk_alloc ?_ _)); exact BK152.out⟩, ⟨by repeat (first | (with_reducible first | exact HB.out | apply below_alloc | apply pw_below_drewN | apply below_drew1 | refine below_set ?_ GE151.out | refine below_set ?_ GE152.out) | exact HB.out)⟩⟩
          case round =>
           clear H'
           try clear c1
           try clear p1
           try clear q1
           try clear hx1
           try clear c2
           try clear p2
           try clear q2
           try clear c3
           try clear c4
           try clear c4b0
           try clear p6
           try clear c7
           try clear c14
           try clear c14b0
           try clear c14b1
           try clear c15
           try clear c15b0
           try clear c15b1
           try clear c16
           try clear c16b0
           try clear c16b1
           try clear p16
           try clear q16
           try clear hx16
           try clear c17
           try clear c17b0
           try clear c17b1
           try clear c18
           try clear c18b0
           try clear c18b1
           try clear c21
           try clear c27
           try clear q27
           try clear c28
           try clear c28b0
           try clear c29
           try clear c29b0
           try clear c30
           try clear c30b0
           try clear c32
           try clear c32b0
           try clear c32b1
           try clear c34
           try clear hcz22_0
           try clear hcz22_1
           try clear hcz26_0
           try clear hcz26_1
           try clear hcz8_0
           try clear hcz8_1
           try clear hfz22_0
           try clear hfz22_1
           try clear hfz26_0
           try clear hfz26_1
           try clear hfz8_0
           try clear hfz8_1
           try clear hx162_0
           try clear p162
           try clear p2
           try clear p6
           try clear q027
           try clear q162
           try clear q2
           try clear q27
           obtain ⟨x8_2, HA, HK2, HO_8, HO_152000, BK151, BK152, HB⟩ := hrel
           cases gk with
           | zero => exact absurd HA.out (by simp [draw_attempt.l1])
           | succ k2 =>
            have H := HA.out
            clear HA
            simp only [draw_attempt.l1] at H
            by_cases c39 : (x8_2.length : Int) > 0
            ·
             rw [if_pos c39] at H
             have c39b0 : decide (0 < (x8_2.length : Int)) = true := decide_eq_true c39
             have c39b1 : decide (0 < x8_2.length) = true := decide_eq_true (by omega)
             clear c39
             obtain ⟨ji40, hji40⟩ : ∃ j_ : Int, (wrap64 ((x8_2.length : Int) - 1)) = j_ := ⟨_, rfl⟩
             replace H : (if 0 ≤ (ji40) then (if (ji40) < (x8_2.length : Int) then (if (rd x8_2 (ji40)) = 0 then (if (ji40) ≤ (x8_2.length : Int) then (draw_attempt.l1 k2 (wrap64 (Int.tdiv (wrap64 ((wrap64 (a1 + 64)) - 1)) 64)) (x8_2.take ((ji40) : Int).toNat) l0_0 a0_1) else (none)) else (some (x8_2, l0_0, wrap64 (a0_1 + (wrap64 (Int.tdiv (wrap64 ((wrap64 (a1 + 64)) - 1)) 64))), true))) else (none)) else (none)) = some (r1, r2, r3, r4) := by first | (rw [hji40] at H; exact H) | (simp only [hji40] at H ⊢; exact H)
             have hji40w : (IntKind.i64.wrap ((x8_2.length : Int) - 1)) = ji40 := (i64_w _).trans hji40
             by_cases c41 : 0 ≤ (ji40)
             ·
              rw [if_pos c41] at H
              have c41b0 : decide (0 ≤ (ji40)) = true := decide_eq_true c41
              clear c41
              by_cases c42 : (ji40) < (x8_2.length : Int)
              ·
               rw [if_pos c42] at H
               have c42b0 : decide ((ji40) < (x8_2.length : Int)) = true := decide_eq_true c42
               clear c42
               by_cases c43 : (rd x8_2 (ji40)) = 0
               ·
                rw [if_pos c43] at H
                have c43b0 : ((rd x8_2 (ji40)) == 0) = true := beq_iff_eq.mpr c43
                have c43b1 : ((rd x8_2 (ji40)) != 0) = false := bne_eq_false_iff_eq.mpr c43
                clear c43
                by_cases c44 : (ji40) ≤ (x8_2.length : Int)
                ·
                 rw [if_pos c44] at H
                 have c44b0 := eq_true c44
                 have c44b1 : decide ((ji40) ≤ (x8_2.length : Int)) = true := decide_eq_true c44
                 clear c44
                 obtain ⟨y170, hy170⟩ : ∃ y_ : List Int, y_ = (x8_2.take ((ji40) : Int).toNat) := ⟨_, rfl⟩
                 replace H : (draw_attempt.l1 k2 (wrap64 (Int.tdiv (wrap64 ((wrap64 (a1 + 64)) - 1)) 64)) y170 l0_0 a0_1) = some (r1, r2, r3, r4) := by first | (rw [hy170]; with_reducible exact H) | (have H2_ := (Option.bind_some _ _).symm.trans H; rw [hy170]; with_reducible exact H2_) | (have H2_ := (Option.bind_some _ _).symm.trans H; with_reducible exact H2_) | with_reducible exact H | (rw [hy170]; exact H) | exact H
                 have Ny170 := Aside0.mk hy170
                 clear hy170
                 have H' := Aside0.mk H
                 clear H
                 obtain ⟨Ao45, co45, eo45⟩ := Kd.R_slice HO_8.out
                 subst eo45
                 have p169 : 0 ≤ ((ji40) : Int) := of_decide_eq_true (by first | (with_reducible assumption) | assumption)
                 have q169 : (ji40) < (x8_2.length : Int) := of_decide_eq_true (by first | (with_reducible assumption) | assumption)
                 obtain ⟨ad169, e169, hx169_0⟩ := Kd.at_int (Kd.R_reads' HO_8.out).2.2 (ji40) p169 q169
                 cases e169
                 replace p169 := eq_true p169
                 replace q169 := eq_true q169
                 have q46 : ((ji40) : Int) ≤ ((x8_2.length : Int) : Int) := of_decide_eq_true (by first | (with_reducible assumption) | assumption)
                 obtain ⟨i046, hi046, _, hsz46, _⟩ := info_parts info48
                 have hcut46 := cut_to (P := Try.prog) 25 48 .i64 Try.underlying25 hi046 (some ad169) x8_2.length co45 (ji40) (of_decide_eq_true (by first | (with_reducible assumption) | assumption)) q46 (Kd.R_reads' HO_8.out).2.1
                 have hr46 := Kd.R_take (m := ((ji40) : Int).toNat) HO_8.out (by omega)
                 have hy46 : y170.length = ((ji40) : Int).toNat := (by rw [Ny170.out, List.length_take]; omega)
                 rw [← Ny170.out] at hr46
                 rw [← hy46] at hr46 hcut46
                 clear hy46 hi046 hsz46 HO_8
                 have HO172 := Aside0.mk hr46
                 clear hr46
                 replace q46 := eq_true q46
                 go_wp2
                 go_roundg k2
                 case measure => have := HK1.out; have := HK2.out; omega
                 case rel => exact ⟨(y170), H', ⟨by have := HK1.out; have := HK2.out; omega⟩, ⟨by (with_reducible repeat (first | apply Kd.R_alloc | apply Kd.R_drewN | apply Kd.R_drew)); exact HO172.out⟩, ⟨by (with_reducible repeat (first | apply Kd.V_alloc | apply Kd.V_drewN | apply Kd.V_drew)); exact HO_152000.out⟩, ⟨by (with_reducible repeat (first | refine blk_drewN ?_ _ | refine blk_drew ?_ | refine blk_alloc ?_ _)); exact BK151.out⟩, ⟨by (with_reducible repeat (first | refine blk_drewN ?_ _ | refine blk_drew ?_ | refine blk_alloc ?_ _)); exact BK152.out⟩, ⟨by repeat (first | (with_reducible first | exact HB.out | apply below_alloc | apply pw_below_drewN | apply below_drew1 | refine below_set ?_ GE151.out | refine below_set ?_ GE152.out) | exact HB.out)⟩⟩
                ·
                 rw [if_neg c44] at H
                 exact absurd H (by simp)
               ·
                rw [if_neg c43] at H
                have c43b0 : ((rd x8_2 (ji40)) == 0) = false := beq_eq_false_iff_ne.mpr c43
                have c43b1 : ((rd x8_2 (ji40)) != 0) = true := bne_iff_ne.mpr c43
                simp only [Option.some.injEq, Prod.mk.injEq] at H
                obtain ⟨rfl, rfl, rfl, rfl⟩ := H
                obtain ⟨Ao47, co47, eo47⟩ := Kd.R_slice HO_8.out
                subst eo47
                have p169 : 0 ≤ ((ji40) : Int) := of_decide_eq_true (by first | (with_reducible assumption) | assumption)
                have q169 : (ji40) < (x8_2.length : Int) := of_decide_eq_true (by first | (with_reducible assumption) | assumption)
                obtain ⟨ad169, e169, hx169_0⟩ := Kd.at_int (Kd.R_reads' HO_8.out).2.2 (ji40) p169 q169
                cases e169
                replace p169 := eq_true p169
                replace q169 := eq_true q169
                have hnb48 := NB151_152.out
                have hnc48 := NB152_151.out
                have hcz49_0 : wr.cell? ⟨gb151, 0, none⟩ = some (.slice A0_0 l0_0.length c0_0) := (blk_cell BK151.out 0).trans rfl
                have hcz49_1 : wr.cell? ⟨gb151, 1, none⟩ = some (.int .i64 a0_1) := (blk_cell BK151.out 1).trans rfl
                have hfz49_0 := blk_frozen BK151.out 0
                have hfz49_1 := blk_frozen BK151.out 1
                try go_wp2
                have n0_ : Aside0 (Kd.R (Kd.int .u32) 48 (wr.setCell ⟨gb151, 1, none⟩ (.int .i64 (wrap64 (a0_1 + (wrap64 (Int.tdiv (wrap64 ((wrap64 (a1 + 64)) - 1)) 64)))))) w.heap.size (fun k_ => (w.heap.size ≤ k_)) (.slice (some ad169) x8_2.length co47) x8_2) := ⟨by (with_reducible repeat (first | apply Kd.R_alloc | apply Kd.R_drewN | apply Kd.R_drew)); exact Kd.R_mono (Kd.R_far (p := ⟨gb151, 1, none⟩) (Kd.R_types HO_8.out BK151.out (by decide)) (fun _ hk => hk.2) (.int .i64 (wrap64 (a0_1 + (wrap64 (Int.tdiv (wrap64 ((wrap64 (a1 + 64)) - 1)) 64)))))) (fun _ hk => hk.1)⟩
                have n1_ : Aside0 (Kd.V (Kd.int .u64) 23 (wr.setCell ⟨gb151, 1, none⟩ (.int .i64 (wrap64 (a0_1 + (wrap64 (Int.tdiv (wrap64 ((wrap64 (a1 + 64)) - 1)) 64)))))) w.heap.size (fun k_ => (P0_0_ k_ ∨ w.heap.size ≤ k_) ∧ some k_ ≠ (.slice (some ad169) x8_2.length co47 : Value).ownBlock ∧ k_ ≠ gb151 ∧ k_ ≠ gb152) (.slice A0_0 l0_0.length c0_0) l0_0) := ⟨by (with_reducible repeat (first | apply Kd.V_alloc | apply Kd.V_drewN | apply Kd.V_drew)); exact Kd.V_mono (Kd.V_far (p := ⟨gb151, 1, none⟩) (Kd.V_mono HO_152000.out (fun k_ hk => (⟨hk, hk.2.2.1⟩ : _ ∧ k_ ≠ gb151))) (fun _ hk => hk.2) (.int .i64 (wrap64 (a0_1 + (wrap64 (Int.tdiv (wrap64 ((wrap64 (a1 + 64)) - 1)) 64)))))) (fun _ hk => ⟨hk.1.1, ⟨hk.1.2.1, ⟨hk.1.2.2.1, hk.1.2.2.2⟩⟩⟩)⟩
                have n2_ : Aside0 ((wr.setCell ⟨gb151, 1, none⟩ (.int .i64 (wrap64 (a0_1 + (wrap64 (Int.tdiv (wrap64 ((wrap64 (a1 + 64)) - 1)) 64)))))).heap[gb151]? = some (.cells #[.slice A0_0 l0_0.length c0_0, .int .i64 (wrap64 (a0_1 + (wrap64 (Int.tdiv (wrap64 ((wrap64 (a1 + 64)) - 1)) 64))))] 28 (0, 0))) := ⟨by (with_reducible repeat (first | refine blk_drewN ?_ _ | refine blk_drew ?_ | refine blk_alloc ?_ _)); refine blk_put (cs := #[.slice A0_0 l0_0.length c0_0, .int .i64 a0_1]) ?_ 1 _ rfl; (with_reducible repeat (first | refine blk_drewN ?_ _ | refine blk_drew ?_ | refine blk_alloc ?_ _)); exact BK151.out⟩
                have n3_ : Aside0 ((wr.setCell ⟨gb151, 1, none⟩ (.int .i64 (wrap64 (a0_1 + (wrap64 (Int.tdiv (wrap64 ((wrap64 (a1 + 64)) - 1)) 64)))))).heap[gb152]? = some (.cells #[.slice none 0 0, .int .i64 0] 28 (0, 0))) := ⟨by (with_reducible repeat (first | refine blk_drewN ?_ _ | refine blk_drew ?_ | refine blk_alloc ?_ _)); refine blk_far ?_ NB152_151.out _; (with_reducible repeat (first | refine blk_drewN ?_ _ | refine blk_drew ?_ | refine blk_alloc ?_ _)); exact BK152.out⟩
                have n4_ : Aside0 (Below w.heap.size w (wr.setCell ⟨gb151, 1, none⟩ (.int .i64 (wrap64 (a0_1 + (wrap64 (Int.tdiv (wrap64 ((wrap64 (a1 + 64)) - 1)) 64))))))) := ⟨by repeat (first | (with_reducible first | exact HB.out | apply below_alloc | apply pw_below_drewN | apply below_drew1 | refine below_set ?_ GE151.out | refine below_set ?_ GE152.out) | exact HB.out)⟩
                (try clear HO_8)
                (try clear HO_152000)
                (try clear BK151)
                (try clear BK152)
                (try clear HB)
                generalize (wr.setCell ⟨gb151, 1, none⟩ (.int .i64 (wrap64 (a0_1 + (wrap64 (Int.tdiv (wrap64 ((wrap64 (a1 + 64)) - 1)) 64)))))) = w50 at n0_ n1_ n2_ n3_ n4_ ⊢
                have HO_8 := n0_
                have HO_152000 := n1_
                have BK151 := n2_
                have BK152 := n3_
                have HB := n4_
                clear n0_ n1_ n2_ n3_ n4_
                have n0_ := Aside0.mk (Kd.R_drew HO_8.out)
                have n1_ := Aside0.mk (Kd.V_drew HO_152000.out)
                have n2_ := Aside0.mk (blk_drew BK151.out)
                have n3_ := Aside0.mk (blk_drew BK152.out)
                have n4_ := Aside0.mk (below_drew1 HB.out)
                clear HO_8
                clear HO_152000
                clear BK151
                clear BK152
                clear HB
                have HO_8 := n0_
                have HO_152000 := n1_
                have BK151 := n2_
                have BK152 := n3_
                have HB := n4_
                clear n0_ n1_ n2_ n3_ n4_
                refine start_ (n := 5) (S := fun w' => w'.cell? ⟨gb151, 0, none⟩ = some (.slice A0_0 l0_0.length c0_0) ∧ w'.cell? ⟨gb151, 1, none⟩ = some (.int .i64 (wrap64 (a0_1 + (wrap64 (Int.tdiv (wrap64 ((wrap64 (a1 + 64)) - 1)) 64)))))) (ds := []) #[false, false, false, false, false] (by kernel_rfl) rfl rfl ⟨(blk_cell BK151.out 0).trans rfl, (blk_cell BK151.out 1).trans rfl⟩ (fun hHeld => ?_)
                generalize w50.drew = w51 at HO_8 HO_152000 BK151 BK152 HB hHeld ⊢
                refine pure_ (i := 0) (N := some 79) (v := ?_) (a' := ?_) #[true, false, false, false, false] rfl rfl (by kernel_rfl) (fun _ _ _ h => h) (Or.inl ⟨by rfl, ?_⟩) ?_ ?_
                rotate_left
                ·
                 intro w'
                 go_simp
                 with_reducible rfl
                rotate_left
                ·
                 simp only [Act.put, List.setIfInBounds_toArray, List.set_cons_zero, List.set_cons_succ, i64_w, i32_w]
                 rfl
                refine pure_ (i := 2) (N := some 4) (v := ?_) (a' := ?_) #[true, false, true, false, false] rfl rfl (by kernel_rfl) (fun _ _ _ h => h) (Or.inl ⟨by rfl, ?_⟩) ?_ ?_
                rotate_left
                ·
                 intro w'
                 go_simp
                 with_reducible rfl
                rotate_left
                ·
                 simp only [Act.put, List.setIfInBounds_toArray, List.set_cons_zero, List.set_cons_succ, i64_w, i32_w]
                 rfl
                refine take_ (i := 1) (N := some 80) (v := ?_) (a' := ?_) #[true, true, true, false, false] rfl rfl (by kernel_rfl) (fun _ _ _ h => h) (Or.inl ⟨by rfl, ?_⟩) hHeld ?_ ?_
                rotate_left
                ·
                 rintro w' ⟨s0, s1⟩
                 go_simp
                 with_reducible rfl
                rotate_left
                ·
                 simp only [Act.put, List.setIfInBounds_toArray, List.set_cons_zero, List.set_cons_succ, i64_w, i32_w]
                 rfl
                refine one_ (i := 3) (N := none) #[true, true, true, true, false] rfl rfl (by kernel_rfl) (by decide) (fun K hK => ?_)
                have hs52 : w51.cell? ⟨gb152, 0, none⟩ = some (.slice none 0 0) := (blk_cell BK152.out 0).trans rfl
                have hfs52 := blk_frozen BK152.out 0
                have hns52_0 := NB151_152.out
                have hms52_0 := NB152_151.out
                have hs53 : w51.cell? ⟨gb152, 1, none⟩ = some (.int .i64 0) := (blk_cell BK152.out 1).trans rfl
                have hfs53 := blk_frozen BK152.out 1
                have hns53_0 := NB151_152.out
                have hms53_0 := NB152_151.out
                refine skip_ (w1 := ?_) (by rfl) rfl ?_ ?_
                rotate_left
                ·
                 go_simp
                 rfl
                refine hK.out _ _ ⟨((cell_far (p := ⟨gb152, _, none⟩) NB151_152.out _).trans (((cell_far (p := ⟨gb152, _, none⟩) NB151_152.out _).trans (hHeld.1)))), ((cell_far (p := ⟨gb152, _, none⟩) NB151_152.out _).trans (((cell_far (p := ⟨gb152, _, none⟩) NB151_152.out _).trans (hHeld.2))))⟩ (fun hHeld => ?_)
                clear hK K
                refine pure_ (i := 4) (N := some 6) (v := ?_) (a' := ?_) #[true, true, true, true, true] rfl rfl (by kernel_rfl) (fun _ _ _ h => h) (Or.inl ⟨by rfl, ?_⟩) ?_ ?_
                rotate_left
                ·
                 intro w'
                 go_simp
                 with_reducible rfl
                rotate_left
                ·
                 simp only [Act.put, List.setIfInBounds_toArray, List.set_cons_zero, List.set_cons_succ, i64_w, i32_w]
                 rfl
                refine done_ (by kernel_rfl) ?_
                try go_wp2
                refine bodyPost_ret (results_list (rs := [.tmp 4, .cell 5 28, .tmp 6]) rfl (by simp) (.tmp (.cell gb152 28 #[.slice A0_0 l0_0.length c0_0, .int .i64 (wrap64 (a0_1 + (wrap64 (Int.tdiv (wrap64 ((wrap64 (a1 + 64)) - 1)) 64))))] (0, 0) _ rfl (by (with_reducible repeat (first | refine blk_drewN ?_ _ | refine blk_drew ?_ | refine blk_alloc ?_ _)); refine blk_put (cs := #[.slice A0_0 l0_0.length c0_0, .int .i64 0]) ?_ 1 _ rfl; (with_reducible repeat (first | refine blk_drewN ?_ _ | refine blk_drew ?_ | refine blk_alloc ?_ _)); refine blk_put (cs := #[.slice none 0 0, .int .i64 0]) ?_ 0 _ rfl; (with_reducible repeat (first | refine blk_drewN ?_ _ | refine blk_drew ?_ | refine blk_alloc ?_ _)); exact BK152.out) Try.underlying28 rfl (by kernel_rfl) (.tmp .nil)))) rfl ?_
                exact ⟨_, _, by first | rfl | (simp [errW_none, errW_some] <;> rfl) | (simp only [← hji13, ← hji40]; first | rfl | (simp [errW_none, errW_some] <;> rfl)) | (simp [*, errW_none, errW_some] <;> rfl), by (with_reducible repeat (first | apply Kd.R_alloc | apply Kd.R_drewN | apply Kd.R_drew)); exact Kd.R_mono (Kd.R_far (p := ⟨gb152, 1, none⟩) (Kd.R_far (p := ⟨gb152, 0, none⟩) (Kd.R_types HO_8.out BK152.out (by decide)) (fun _ hk => hk.2) (.slice A0_0 l0_0.length c0_0)) (fun _ hk => hk.2) (.int .i64 (wrap64 (a0_1 + (wrap64 (Int.tdiv (wrap64 ((wrap64 (a1 + 64)) - 1)) 64)))))) (fun _ hk => hk.1), by (with_reducible repeat (first | apply Kd.V_alloc | apply Kd.V_drewN | apply Kd.V_drew)); exact Kd.V_mono (Kd.V_far (p := ⟨gb152, 1, none⟩) (Kd.V_far (p := ⟨gb152, 0, none⟩) (Kd.V_mono HO_152000.out (fun k_ hk => (⟨hk, hk.2.2.2⟩ : _ ∧ k_ ≠ gb152))) (fun _ hk => hk.2) (.slice A0_0 l0_0.length c0_0)) (fun _ hk => hk.2) (.int .i64 (wrap64 (a0_1 + (wrap64 (Int.tdiv (wrap64 ((wrap64 (a1 + 64)) - 1)) 64)))))) (fun _ hk => ⟨hk.1.1, hk.1.2.1⟩), by repeat (first | (with_reducible first | exact HB.out | apply below_alloc | apply pw_below_drewN | apply below_drew1 | refine below_set ?_ GE151.out | refine below_set ?_ GE152.out) | exact HB.out)⟩
              ·
               rw [if_neg c42] at H
               exact absurd H (by simp)
             ·
              rw [if_neg c41] at H
              exact absurd H (by simp)
            ·
             rw [if_neg c39] at H
             have c39b0 : decide (0 < (x8_2.length : Int)) = false := decide_eq_false c39
             have c39b1 : decide (0 < x8_2.length) = false := decide_eq_false (by omega)
             clear c39
             simp only [Option.some.injEq, Prod.mk.injEq] at H
             obtain ⟨rfl, rfl, rfl, rfl⟩ := H
             obtain ⟨Ao54, co54, eo54⟩ := Kd.R_slice HO_8.out
             subst eo54
             have hnb55 := NB151_152.out
             have hnc55 := NB152_151.out
             have hcz56_0 : wr.cell? ⟨gb151, 0, none⟩ = some (.slice A0_0 l0_0.length c0_0) := (blk_cell BK151.out 0).trans rfl
             have hcz56_1 : wr.cell? ⟨gb151, 1, none⟩ = some (.int .i64 a0_1) := (blk_cell BK151.out 1).trans rfl
             have hfz56_0 := blk_frozen BK151.out 0
             have hfz56_1 := blk_frozen BK151.out 1
             try go_wp2
             have n0_ : Aside0 (Kd.R (Kd.int .u32) 48 (wr.setCell ⟨gb151, 1, none⟩ (.int .i64 (wrap64 (a0_1 + (wrap64 (Int.tdiv (wrap64 ((wrap64 (a1 + 64)) - 1)) 64)))))) w.heap.size (fun k_ => (w.heap.size ≤ k_)) (.slice Ao54 x8_2.length co54) x8_2) := ⟨by (with_reducible repeat (first | apply Kd.R_alloc | apply Kd.R_drewN | apply Kd.R_drew)); exact Kd.R_mono (Kd.R_far (p := ⟨gb151, 1, none⟩) (Kd.R_types HO_8.out BK151.out (by decide)) (fun _ hk => hk.2) (.int .i64 (wrap64 (a0_1 + (wrap64 (Int.tdiv (wrap64 ((wrap64 (a1 + 64)) - 1)) 64)))))) (fun _ hk => hk.1)⟩
             have n1_ : Aside0 (Kd.V (Kd.int .u64) 23 (wr.setCell ⟨gb151, 1, none⟩ (.int .i64 (wrap64 (a0_1 + (wrap64 (Int.tdiv (wrap64 ((wrap64 (a1 + 64)) - 1)) 64)))))) w.heap.size (fun k_ => (P0_0_ k_ ∨ w.heap.size ≤ k_) ∧ some k_ ≠ (.slice Ao54 x8_2.length co54 : Value).ownBlock ∧ k_ ≠ gb151 ∧ k_ ≠ gb152) (.slice A0_0 l0_0.length c0_0) l0_0) := ⟨by (with_reducible repeat (first | apply Kd.V_alloc | apply Kd.V_drewN | apply Kd.V_drew)); exact Kd.V_mono (Kd.V_far (p := ⟨gb151, 1, none⟩) (Kd.V_mono HO_152000.out (fun k_ hk => (⟨hk, hk.2.2.1⟩ : _ ∧ k_ ≠ gb151))) (fun _ hk => hk.2) (.int .i64 (wrap64 (a0_1 + (wrap64 (Int.tdiv (wrap64 ((wrap64 (a1 + 64)) - 1)) 64)))))) (fun _ hk => ⟨hk.1.1, ⟨hk.1.2.1, ⟨hk.1.2.2.1, hk.1.2.2.2⟩⟩⟩)⟩
             have n2_ : Aside0 ((wr.setCell ⟨gb151, 1, none⟩ (.int .i64 (wrap64 (a0_1 + (wrap64 (Int.tdiv (wrap64 ((wrap64 (a1 + 64)) - 1)) 64)))))).heap[gb151]? = some (.cells #[.slice A0_0 l0_0.length c0_0, .int .i64 (wrap64 (a0_1 + (wrap64 (Int.tdiv (wrap64 ((wrap64 (a1 + 64)) - 1)) 64))))] 28 (0, 0))) := ⟨by (with_reducible repeat (first | refine blk_drewN ?_ _ | refine blk_drew ?_ | refine blk_alloc ?_ _)); refine blk_put (cs := #[.slice A0_0 l0_0.length c0_0, .int .i64 a0_1]) ?_ 1 _ rfl; (with_reducible repeat (first | refine blk_drewN ?_ _ | refine blk_drew ?_ | refine blk_alloc ?_ _)); exact BK151.out⟩
             have n3_ : Aside0 ((wr.setCell ⟨gb151, 1, none⟩ (.int .i64 (wrap64 (a0_1 + (wrap64 (Int.tdiv (wrap64 ((wrap64 (a1 + 64)) - 1)) 64)))))).heap[gb152]? = some (.cells #[.slice none 0 0, .int .i64 0] 28 (0, 0))) := ⟨by (with_reducible repeat (first | refine blk_drewN ?_ _ | refine blk_drew ?_ | refine blk_alloc ?_ _)); refine blk_far ?_ NB152_151.out _; (with_reducible repeat (first | refine blk_drewN ?_ _ | refine blk_drew ?_ | refine blk_alloc ?_ _)); exact BK152.out⟩
             have n4_ : Aside0 (Below w.heap.size w (wr.setCell ⟨gb151, 1, none⟩ (.int .i64 (wrap64 (a0_1 + (wrap64 (Int.tdiv (wrap64 ((wrap64 (a1 + 64)) - 1)) 64))))))) := ⟨by repeat (first | (with_reducible first | exact HB.out | apply below_alloc | apply pw_below_drewN | apply below_drew1 | refine below_set ?_ GE151.out | refine below_set ?_ GE152.out) | exact HB.out)⟩
             (try clear HO_8)
             (try clear HO_152000)
             (try clear BK151)
             (try clear BK152)
             (try clear HB)
             generalize (wr.setCell ⟨gb151, 1, none⟩ (.int .i64 (wrap64 (a0_1 + (wrap64 (Int.tdiv (wrap64 ((wrap64 (a1 + 64)) - 1)) 64)))))) = w57 at n0_ n1_ n2_ n3_ n4_ ⊢
             have HO_8 := n0_
             have HO_152000 := n1_
             have BK151 := n2_
             have BK152 := n3_
             have HB := n4_
             clear n0_ n1_ n2_ n3_ n4_
             have n0_ := Aside0.mk (Kd.R_drew HO_8.out)
             have n1_ := Aside0.mk (Kd.V_drew HO_152000.out)
             have n2_ := Aside0.mk (blk_drew BK151.out)
             have n3_ := Aside0.mk (blk_drew BK152.out)
             have n4_ := Aside0.mk (below_drew1 HB.out)
             clear HO_8
             clear HO_152000
             clear BK151
             clear BK152
             clear HB
             have HO_8 := n0_
             have HO_152000 := n1_
             have BK151 := n2_
             have BK152 := n3_
             have HB := n4_
             clear n0_ n1_ n2_ n3_ n4_
             refine start_ (n := 5) (S := fun w' => w'.cell? ⟨gb151, 0, none⟩ = some (.slice A0_0 l0_0.length c0_0) ∧ w'.cell? ⟨gb151, 1, none⟩ = some (.int .i64 (wrap64 (a0_1 + (wrap64 (Int.tdiv (wrap64 ((wrap64 (a1 + 64)) - 1)) 64)))))) (ds := []) #[false, false, false, false, false] (by kernel_rfl) rfl rfl ⟨(blk_cell BK151.out 0).trans rfl, (blk_cell BK151.out 1).trans rfl⟩ (fun hHeld => ?_)
             generalize w57.drew = w58 at HO_8 HO_152000 BK151 BK152 HB hHeld ⊢
             refine pure_ (i := 0) (N := some 79) (v := ?_) (a' := ?_) #[true, false, false, false, false] rfl rfl (by kernel_rfl) (fun _ _ _ h => h) (Or.inl ⟨by rfl, ?_⟩) ?_ ?_
             rotate_left
             ·
              intro w'
              go_simp
              with_reducible rfl
             rotate_left
             ·
              simp only [Act.put, List.setIfInBounds_toArray, List.set_cons_zero, List.set_cons_succ, i64_w, i32_w]
              rfl
             refine pure_ (i := 2) (N := some 4) (v := ?_) (a' := ?_) #[true, false, true, false, false] rfl rfl (by kernel_rfl) (fun _ _ _ h => h) (Or.inl ⟨by rfl, ?_⟩) ?_ ?_
             rotate_left
             ·
              intro w'
              go_simp
              with_reducible rfl
             rotate_left
             ·
              simp only [Act.put, List.setIfInBounds_toArray, List.set_cons_zero, List.set_cons_succ, i64_w, i32_w]
              rfl
             refine take_ (i := 1) (N := some 80) (v := ?_) (a' := ?_) #[true, true, true, false, false] rfl rfl (by kernel_rfl) (fun _ _ _ h => h) (Or.inl ⟨by rfl, ?_⟩) hHeld ?_ ?_
             rotate_left
             ·
              rintro w' ⟨s0, s1⟩
              go_simp
              with_reducible rfl
             rotate_left
             ·
              simp only [Act.put, List.setIfInBounds_toArray, List.set_cons_zero, List.set_cons_succ, i64_w, i32_w]
              rfl
             refine one_ (i := 3) (N := none) #[true, true, true, true, false] rfl rfl (by kernel_rfl) (by decide) (fun K hK => ?_)
             have hs59 : w58.cell? ⟨gb152, 0, none⟩ = some (.slice none 0 0) := (blk_cell BK152.out 0).trans rfl
             have hfs59 := blk_frozen BK152.out 0
             have hns59_0 := NB151_152.out
             have hms59_0 := NB152_151.out
             have hs60 : w58.cell? ⟨gb152, 1, none⟩ = some (.int .i64 0) := (blk_cell BK152.out 1).trans rfl
             have hfs60 := blk_frozen BK152.out 1
             have hns60_0 := NB151_152.out
             have hms60_0 := NB152_151.out
             refine skip_ (w1 := ?_) (by rfl) rfl ?_ ?_
             rotate_left
             ·
              go_simp
              rfl
             refine hK.out _ _ ⟨((cell_far (p := ⟨gb152, _, none⟩) NB151_152.out _).trans (((cell_far (p := ⟨gb152, _, none⟩) NB151_152.out _).trans (hHeld.1)))), ((cell_far (p := ⟨gb152, _, none⟩) NB151_152.out _).trans (((cell_far (p := ⟨gb152, _, none⟩) NB151_152.out _).trans (hHeld.2))))⟩ (fun hHeld => ?_)
             clear hK K
             refine pure_ (i := 4) (N := some 6) (v := ?_) (a' := ?_) #[true, true, true, true, true] rfl rfl (by kernel_rfl) (fun _ _ _ h => h) (Or.inl ⟨by rfl, ?_⟩) ?_ ?_
             rotate_left
             ·
              intro w'
              go_simp
              with_reducible rfl
             rotate_left
             ·
              simp only [Act.put, List.setIfInBounds_toArray, List.set_cons_zero, List.set_cons_succ, i64_w, i32_w]
              rfl
             refine done_ (by kernel_rfl) ?_
             try go_wp2
             refine bodyPost_ret (results_list (rs := [.tmp 4, .cell 5 28, .tmp 6]) rfl (by simp) (.tmp (.cell gb152 28 #[.slice A0_0 l0_0.length c0_0, .int .i64 (wrap64 (a0_1 + (wrap64 (Int.tdiv (wrap64 ((wrap64 (a1 + 64)) - 1)) 64))))] (0, 0) _ rfl (by (with_reducible repeat (first | refine blk_drewN ?_ _ | refine blk_drew ?_ | refine blk_alloc ?_ _)); refine blk_put (cs := #[.slice A0_0 l0_0.length c0_0, .int .i64 0]) ?_ 1 _ rfl; (with_reducible repeat (first | refine blk_drewN ?_ _ | refine blk_drew ?_ | refine blk_alloc ?_ _)); refine blk_put (cs := #[.slice none 0 0, .int .i64 0]) ?_ 0 _ rfl; (with_reducible repeat (first | refine blk_drewN ?_ _ | refine blk_drew ?_ | refine blk_alloc ?_ _)); exact BK152.out) Try.underlying28 rfl (by kernel_rfl) (.tmp .nil)))) rfl ?_
             exact ⟨_, _, by first | rfl | (simp [errW_none, errW_some] <;> rfl) | (simp only [← hji13]; first | rfl | (simp [errW_none, errW_some] <;> rfl)) | (simp [*, errW_none, errW_some] <;> rfl), by (with_reducible repeat (first | apply Kd.R_alloc | apply Kd.R_drewN | apply Kd.R_drew)); exact Kd.R_mono (Kd.R_far (p := ⟨gb152, 1, none⟩) (Kd.R_far (p := ⟨gb152, 0, none⟩) (Kd.R_types HO_8.out BK152.out (by decide)) (fun _ hk => hk.2) (.slice A0_0 l0_0.length c0_0)) (fun _ hk => hk.2) (.int .i64 (wrap64 (a0_1 + (wrap64 (Int.tdiv (wrap64 ((wrap64 (a1 + 64)) - 1)) 64)))))) (fun _ hk => hk.1), by (with_reducible repeat (first | apply Kd.V_alloc | apply Kd.V_drewN | apply Kd.V_drew)); exact Kd.V_mono (Kd.V_far (p := ⟨gb152, 1, none⟩) (Kd.V_far (p := ⟨gb152, 0, none⟩) (Kd.V_mono HO_152000.out (fun k_ hk => (⟨hk, hk.2.2.2⟩ : _ ∧ k_ ≠ gb152))) (fun _ hk => hk.2) (.slice A0_0 l0_0.length c0_0)) (fun _ hk => hk.2) (.int .i64 (wrap64 (a0_1 + (wrap64 (Int.tdiv (wrap64 ((wrap64 (a1 + 64)) - 1)) 64)))))) (fun _ hk => ⟨hk.1.1, hk.1.2.1⟩), by repeat (first | (with_reducible first | exact HB.out | apply below_alloc | apply pw_below_drewN | apply below_drew1 | refine below_set ?_ GE151.out | refine below_set ?_ GE152.out) | exact HB.out)⟩
      ·
       rw [if_neg c18] at H
       exact absurd H (by simp)
     ·
      rw [if_neg c17] at H
      exact absurd H (by simp)
    ·
     rw [if_neg c16] at H
     exact absurd H (by simp)
   ·
    rw [if_neg c15] at H
    exact absurd H (by simp)
  ·
   rw [if_neg c14] at H
   exact absurd H (by simp)

/-! ### nat_Cmp: function 30 -/
def nat_Cmp.f (k : Nat) (l0 : List Int) (l1 : List Int) : Option (Int) := (nat_Right.f l0).bind fun t173 => (if t173 = true then ((nat_Right.f l1).bind fun t174 => (if t174 = true then ((nat_order.f k l0 l1).bind fun t175 => (some t175)) else (some 0))) else (some 0))
theorem nat_Cmp.mono : ∀ a0 a1 k, LeO (nat_Cmp.f k a0 a1) (nat_Cmp.f (k + 1) a0 a1) := by
 intro a0 a1 k
 unfold nat_Cmp.f
 repeat' first
   | (with_reducible exact nat_order.mono _ _ _)
   | (with_reducible exact LeO.refl _)
   | (with_reducible exact LeO.none _)
   | (with_reducible refine LeO.ite ?_ ?_)
   | (with_reducible refine LeO.bind ?_ (fun _ => ?_))
   | exact nat_order.mono _ _ _
   | exact LeO.none _
   | refine LeO.ite ?_ ?_
   | refine LeO.bind ?_ (fun _ => ?_)
set_option maxHeartbeats 8000000 in
set_option maxRecDepth 100000 in
theorem nat_Cmp.calls (k : Nat) (A0 : Option Addr) (c0 : Nat) (l0 : List Int) (A1 : Option Addr) (c1 : Nat) (l1 : List Int) (r : Int) (w : World) (hr0 : Kd.C (Kd.int .u32) w A0 l0.length l0) (hc0 : l0.length ≤ c0) (hr1 : Kd.C (Kd.int .u32) w A1 l1.length l1) (hc1 : l1.length ≤ c1) (h : nat_Cmp.f k l0 l1 = some r) :
  Calls Try.prog 30 #[.slice A0 l0.length c0, .slice A1 l1.length c1] w fun e w' => e = .returned (.int .i64 r) ∧ Below w.heap.size w w' := by
 have HR0 := Aside0.mk hr0
 have HC0 := Aside0.mk hc0
 clear hr0 hc0
 have HR1 := Aside0.mk hr1
 have HC1 := Aside0.mk hc1
 clear hr1 hc1
 have HB := Aside0.mk (Below.refl w.heap.size w)
 have H : ((nat_Right.f l0).bind fun t173 => (if t173 = true then ((nat_Right.f l1).bind fun t174 => (if t174 = true then ((nat_order.f k l0 l1).bind fun t175 => (some t175)) else (some 0))) else (some 0))) = some r := h
 clear h
 replace H := Option.bind_eq_some_iff.mp H
 obtain ⟨t173, A30, H⟩ := H
 replace H : (if t173 = true then ((nat_Right.f l1).bind fun t174 => (if t174 = true then ((nat_order.f k l0 l1).bind fun t175 => (some t175)) else (some 0))) else (some 0)) = some r := H
 have A3 := Aside0.mk A30
 clear A30
 by_cases c4 : t173 = true
 ·
  subst c4
  have H1 : ((nat_Right.f l1).bind fun t174 => (if t174 = true then ((nat_order.f k l0 l1).bind fun t175 => (some t175)) else (some 0))) = some r := by rw [if_pos rfl] at H; exact H
  clear H
  have H := H1
  clear H1
  replace H := Option.bind_eq_some_iff.mp H
  obtain ⟨t174, A50, H⟩ := H
  replace H : (if t174 = true then ((nat_order.f k l0 l1).bind fun t175 => (some t175)) else (some 0)) = some r := H
  have A5 := Aside0.mk A50
  clear A50
  by_cases c6 : t174 = true
  ·
   subst c6
   have H1 : ((nat_order.f k l0 l1).bind fun t175 => (some t175)) = some r := by rw [if_pos rfl] at H; exact H
   clear H
   have H := H1
   clear H1
   replace H := Option.bind_eq_some_iff.mp H
   obtain ⟨t175, A70, H⟩ := H
   replace H : (some t175) = some r := H
   have A7 := Aside0.mk A70
   clear A70
   obtain rfl := Option.some.inj H
   go_enter Try.func30, Try.ntmps30
   go_wp2_with (first | ((with_reducible refine gate_callee (f := 25) rfl ?_); refine goesL_ (some 6) rfl rfl Try.func25 (by kernel_rfl) rfl #[.slice A0 l0.length c0] rfl (by (try simp only [List.map_toArray, List.map_cons, List.map_nil]); first | done | rfl | (simp only [List.length_drop, List.length_take]; rfl)) ?_; (with_reducible refine (nat_Right.calls _ _ l0 true _ ?side1 ?side2 A3.out).mono ?_); (case side1 => repeat (first | exact HR0.out | (with_reducible refine Kd.C_alloc ?_ _) | (with_reducible refine Kd.C_drewN ?_ _) | (with_reducible refine Kd.C_drew ?_))); (case side2 => exact HC0.out); rintro e w' ⟨rfl, ⟨nd, rfl⟩⟩; refine ⟨_, rfl, ?_⟩) | (go_at_call 25; (with_reducible refine (nat_Right.calls _ _ l1 true _ ?side1 ?side2 A5.out).mono ?_); (case side1 => repeat (first | exact HR1.out | (with_reducible refine Kd.C_alloc ?_ _) | (with_reducible refine Kd.C_drewN ?_ _) | (with_reducible refine Kd.C_drew ?_))); (case side2 => exact HC1.out); rintro e w' ⟨rfl, ⟨nd, rfl⟩⟩) | ((with_reducible refine gate_callee (f := 34) rfl ?_); refine goesL_ (some 15) rfl rfl Try.func34 (by kernel_rfl) rfl #[.slice A0 l0.length c0, .slice A1 l1.length c1] rfl (by (try simp only [List.map_toArray, List.map_cons, List.map_nil]); first | done | rfl | (simp only [List.length_drop, List.length_take]; rfl)) ?_; (with_reducible refine (nat_order.calls k _ _ l0 _ _ l1 t175 _ ?side1 ?side2 ?side3 ?side4 A7.out).mono ?_); (case side1 => repeat (first | exact HR0.out | (with_reducible refine Kd.C_alloc ?_ _) | (with_reducible refine Kd.C_drewN ?_ _) | (with_reducible refine Kd.C_drew ?_))); (case side2 => exact HC0.out); (case side3 => repeat (first | exact HR1.out | (with_reducible refine Kd.C_alloc ?_ _) | (with_reducible refine Kd.C_drewN ?_ _) | (with_reducible refine Kd.C_drew ?_))); (case side4 => exact HC1.out); rintro e w8 ⟨rfl, hb⟩; refine ⟨_, rfl, ?_⟩; have n0_ := Aside0.mk (below_step (by repeat (first | (with_reducible first | exact HB.out | apply below_alloc | apply pw_below_drewN | apply below_drew1) | exact HB.out)) hb); clear HB; have HB := n0_; clear n0_; (try clear hb); (try clear hb2); (try clear hk); (try clear hi)))
   go_ret
   exact ⟨by first | rfl | (simp [errW_none, errW_some] <;> rfl) | (simp [*, errW_none, errW_some] <;> rfl), by repeat (first | (with_reducible first | exact HB.out | apply below_alloc | apply pw_below_drewN | apply below_drew1) | exact HB.out)⟩
  ·
   replace c6 := Bool.eq_false_iff.mpr c6
   subst c6
   have H1 : (some 0) = some r := by rw [if_neg (show ¬ (false = true) by decide)] at H; exact H
   clear H
   have H := H1
   clear H1
   obtain rfl := Option.some.inj H
   go_enter Try.func30, Try.ntmps30
   go_wp2_with (first | ((with_reducible refine gate_callee (f := 25) rfl ?_); refine goesL_ (some 6) rfl rfl Try.func25 (by kernel_rfl) rfl #[.slice A0 l0.length c0] rfl (by (try simp only [List.map_toArray, List.map_cons, List.map_nil]); first | done | rfl | (simp only [List.length_drop, List.length_take]; rfl)) ?_; (with_reducible refine (nat_Right.calls _ _ l0 true _ ?side1 ?side2 A3.out).mono ?_); (case side1 => repeat (first | exact HR0.out | (with_reducible refine Kd.C_alloc ?_ _) | (with_reducible refine Kd.C_drewN ?_ _) | (with_reducible refine Kd.C_drew ?_))); (case side2 => exact HC0.out); rintro e w' ⟨rfl, ⟨nd, rfl⟩⟩; refine ⟨_, rfl, ?_⟩) | (go_at_call 25; (with_reducible refine (nat_Right.calls _ _ l1 false _ ?side1 ?side2 A5.out).mono ?_); (case side1 => repeat (first | exact HR1.out | (with_reducible refine Kd.C_alloc ?_ _) | (with_reducible refine Kd.C_drewN ?_ _) | (with_reducible refine Kd.C_drew ?_))); (case side2 => exact HC1.out); rintro e w' ⟨rfl, ⟨nd, rfl⟩⟩))
   go_ret
   exact ⟨by first | rfl | (simp [errW_none, errW_some] <;> rfl) | (simp [*, errW_none, errW_some] <;> rfl), by repeat (first | (with_reducible first | exact HB.out | apply below_alloc | apply pw_below_drewN | apply below_drew1) | exact HB.out)⟩
 ·
  replace c4 := Bool.eq_false_iff.mpr c4
  subst c4
  have H1 : (some 0) = some r := by rw [if_neg (show ¬ (false = true) by decide)] at H; exact H
  clear H
  have H := H1
  clear H1
  obtain rfl := Option.some.inj H
  go_enter Try.func30, Try.ntmps30
  go_wp2_with (first | ((with_reducible refine gate_callee (f := 25) rfl ?_); refine goesL_ (some 6) rfl rfl Try.func25 (by kernel_rfl) rfl #[.slice A0 l0.length c0] rfl (by (try simp only [List.map_toArray, List.map_cons, List.map_nil]); first | done | rfl | (simp only [List.length_drop, List.length_take]; rfl)) ?_; (with_reducible refine (nat_Right.calls _ _ l0 false _ ?side1 ?side2 A3.out).mono ?_); (case side1 => repeat (first | exact HR0.out | (with_reducible refine Kd.C_alloc ?_ _) | (with_reducible refine Kd.C_drewN ?_ _) | (with_reducible refine Kd.C_drew ?_))); (case side2 => exact HC0.out); rintro e w' ⟨rfl, ⟨nd, rfl⟩⟩; refine ⟨_, rfl, ?_⟩))
  go_ret
  exact ⟨by first | rfl | (simp [errW_none, errW_some] <;> rfl) | (simp [*, errW_none, errW_some] <;> rfl), by repeat (first | (with_reducible first | exact HB.out | apply below_alloc | apply pw_below_drewN | apply below_drew1) | exact HB.out)⟩

end Go.Proofs.Ytpgfadljcmakfaa.T
