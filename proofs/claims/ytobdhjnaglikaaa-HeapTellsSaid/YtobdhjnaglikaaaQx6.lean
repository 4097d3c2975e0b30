import Derived.Test.YtobdhjnaglikaaaQx0
import Derived.Test.YtobdhjnaglikaaaQx2
namespace Go.Proofs.Ytobdhjnaglikaaa.Q
open Go.RowKit Go.Proofs.YtobdhjnaglikaaaW.PrintWords Go.Proofs.YtobdhjnaglikaaaW.PrintLast Go.Proofs.YtobdhjnaglikaaaW.PrintMore
attribute [local go_sem] max2_int min2_int max_two min_two max_three min_three max_four min_four
theorem setCell_drewN_YtobdhjnaglikaaaQx6 (w : World) (n : Nat) (p : Addr) (u : Value) : (w.drewN n).setCell p u = (w.setCell p u).drewN n := rfl
attribute [local go_sem] setCell_drewN_YtobdhjnaglikaaaQx6
set_option linter.unusedVariables false
set_option linter.unusedSimpArgs false
mutual
def heap_sink.l0 : Nat → List (S25) → Int → Option ((List (S25)))
 | 0, _, _ => none
 | k + 1, x0, x1 => if (wrap64 ((wrap64 ((wrap64 (2 * x1)) + 1)) + 1)) < (x0.length : Int) then (if 0 ≤ (wrap64 ((wrap64 ((wrap64 (2 * x1)) + 1)) + 1)) then (if 0 ≤ (wrap64 ((wrap64 (2 * x1)) + 1)) then (if (wrap64 ((wrap64 (2 * x1)) + 1)) < (x0.length : Int) then ((rank_Cmp.f k ((rd_T25 x0 (wrap64 ((wrap64 ((wrap64 (2 * x1)) + 1)) + 1))).f0) ((rd_T25 x0 (wrap64 ((wrap64 ((wrap64 (2 * x1)) + 1)) + 1))).f1) ((rd_T25 x0 (wrap64 ((wrap64 ((wrap64 (2 * x1)) + 1)) + 1))).f2) ((rd_T25 x0 (wrap64 ((wrap64 (2 * x1)) + 1))).f0) ((rd_T25 x0 (wrap64 ((wrap64 (2 * x1)) + 1))).f1) ((rd_T25 x0 (wrap64 ((wrap64 (2 * x1)) + 1))).f2)).bind fun t156 => (heap_sink.j1 k x0 x1 (wrap64 ((wrap64 (2 * x1)) + 1)) (decide (t156 > 0)))) else (none)) else (none)) else (none)) else (heap_sink.j1 k x0 x1 (wrap64 ((wrap64 (2 * x1)) + 1)) false)
def heap_sink.j1 : Nat → List (S25) → Int → Int → Bool → Option ((List (S25)))
 | 0, _, _, _, _ => none
 | k + 1, x0, x1, x4, x25 => if x25 = true then (if (wrap64 (x4 + 1)) ≥ (x0.length : Int) then (some x0) else (if 0 ≤ (wrap64 (x4 + 1)) then (if (wrap64 (x4 + 1)) < (x0.length : Int) then (if 0 ≤ x1 then (if x1 < (x0.length : Int) then ((rank_Cmp.f k ((rd_T25 x0 (wrap64 (x4 + 1))).f0) ((rd_T25 x0 (wrap64 (x4 + 1))).f1) ((rd_T25 x0 (wrap64 (x4 + 1))).f2) ((rd_T25 x0 x1).f0) ((rd_T25 x0 x1).f1) ((rd_T25 x0 x1).f2)).bind fun t159 => (if t159 ≤ 0 then (some x0) else (heap_sink.l0 k ((x0.set (x1 : Int).toNat (⟨(rd_T25 x0 (wrap64 (x4 + 1))).f0, (rd_T25 x0 (wrap64 (x4 + 1))).f1, (rd_T25 x0 (wrap64 (x4 + 1))).f2⟩ : S25)).set ((wrap64 (x4 + 1)) : Int).toNat (⟨(rd_T25 x0 x1).f0, (rd_T25 x0 x1).f1, (rd_T25 x0 x1).f2⟩ : S25)) (wrap64 (x4 + 1))))) else (none)) else (none)) else (none)) else (none))) else (if x4 ≥ (x0.length : Int) then (some x0) else (if 0 ≤ x4 then (if x4 < (x0.length : Int) then (if 0 ≤ x1 then (if x1 < (x0.length : Int) then ((rank_Cmp.f k ((rd_T25 x0 x4).f0) ((rd_T25 x0 x4).f1) ((rd_T25 x0 x4).f2) ((rd_T25 x0 x1).f0) ((rd_T25 x0 x1).f1) ((rd_T25 x0 x1).f2)).bind fun t166 => (if t166 ≤ 0 then (some x0) else (heap_sink.l0 k ((x0.set (x1 : Int).toNat (⟨(rd_T25 x0 x4).f0, (rd_T25 x0 x4).f1, (rd_T25 x0 x4).f2⟩ : S25)).set (x4 : Int).toNat (⟨(rd_T25 x0 x1).f0, (rd_T25 x0 x1).f1, (rd_T25 x0 x1).f2⟩ : S25)) x4))) else (none)) else (none)) else (none)) else (none)))
end
def heap_sink.f (k : Nat) (l0 : List (S25)) (a1 : Int) : Option ((List (S25))) := heap_sink.l0 k l0 a1
theorem heap_sink.mono_l : ∀ k, (∀ y0 y1, LeO (heap_sink.l0 k y0 y1) (heap_sink.l0 (k + 1) y0 y1)) ∧ (∀ y0 y1 y2 y3, LeO (heap_sink.j1 k y0 y1 y2 y3) (heap_sink.j1 (k + 1) y0 y1 y2 y3))
 | 0 => ⟨fun _ _ r h => by simp [heap_sink.l0] at h, fun _ _ _ _ r h => by simp [heap_sink.j1] at h⟩
 | k + 1 => by
  obtain ⟨ih0, ih1⟩ := heap_sink.mono_l k
  refine ⟨?_, ?_⟩
  ·
   intro y0 y1
   unfold heap_sink.l0
   repeat' first
   | (with_reducible exact ih0 _ _)
   | (with_reducible exact ih1 _ _ _ _)
   | (with_reducible exact rank_Cmp.mono _ _ _ _ _ _ _)
   | (with_reducible exact LeO.refl _)
   | (with_reducible exact LeO.none _)
   | (with_reducible refine LeO.ite ?_ ?_)
   | (with_reducible refine LeO.bind ?_ (fun _ => ?_))
   | exact ih0 _ _
   | exact ih1 _ _ _ _
   | exact rank_Cmp.mono _ _ _ _ _ _ _
   | exact LeO.none _
   | refine LeO.ite ?_ ?_
   | refine LeO.bind ?_ (fun _ => ?_)
  ·
   intro y0 y1 y2 y3
   unfold heap_sink.j1
   repeat' first
   | (with_reducible exact ih0 _ _)
   | (with_reducible exact ih1 _ _ _ _)
   | (with_reducible exact rank_Cmp.mono _ _ _ _ _ _ _)
   | (with_reducible exact LeO.refl _)
   | (with_reducible exact LeO.none _)
   | (with_reducible refine LeO.ite ?_ ?_)
   | (with_reducible refine LeO.bind ?_ (fun _ => ?_))
   | exact ih0 _ _
   | exact ih1 _ _ _ _
   | exact rank_Cmp.mono _ _ _ _ _ _ _
   | exact LeO.none _
   | refine LeO.ite ?_ ?_
   | refine LeO.bind ?_ (fun _ => ?_)
theorem heap_sink.mono : ∀ a0 a1 k, LeO (heap_sink.f k a0 a1) (heap_sink.f (k + 1) a0 a1) := by
 intro a0 a1 k
 obtain ⟨ih0, ih1⟩ := heap_sink.mono_l k
 unfold heap_sink.f
 repeat' first
   | (with_reducible exact ih0 _ _)
   | (with_reducible exact ih1 _ _ _ _)
   | (with_reducible exact rank_Cmp.mono _ _ _ _ _ _ _)
   | (with_reducible exact LeO.refl _)
   | (with_reducible exact LeO.none _)
   | (with_reducible refine LeO.ite ?_ ?_)
   | (with_reducible refine LeO.bind ?_ (fun _ => ?_))
   | exact ih0 _ _
   | exact ih1 _ _ _ _
   | exact rank_Cmp.mono _ _ _ _ _ _ _
   | exact LeO.none _
   | refine LeO.ite ?_ ?_
   | refine LeO.bind ?_ (fun _ => ?_)
def heap_sink.T1 : Bool × List (List Nat × List Nat) := (true, [([], []), ([0], [0]), ([], []), ([2], [2]), ([1, 3], [1, 3]), ([4], [4]), ([5], [5]), ([5], [5]), ([7, 5], [5, 7]), ([6, 8, 5], [5, 6, 8]), ([9, 5], [5, 9]), ([5], [5]), ([5], [5]), ([11, 12, 5], [5, 11, 12]), ([13, 5], [5, 13]), ([10, 14, 5, 5], [5, 10, 14]), ([15, 5], [5, 15]), ([5, 16], [5, 16])])
def heap_sink.B1 : List Nat := [0, 1, 0, 4, 15, 31, 63, 63, 191, 511, 1023, 63, 63, 6207, 14399, 32767, 65535, 131071]
theorem heap_sink.tab1 : rtab .any (opsOf Try.f29 1) = heap_sink.T1 := by kernel_rfl
theorem heap_sink.bits1 : waitsOk heap_sink.T1.2 heap_sink.B1 = true := by kernel_rfl
def heap_sink.T3 : Bool × List (List Nat × List Nat) := (true, [([], []), ([], []), ([1], [1]), ([0, 2], [0, 2]), ([3], [3]), ([4], [4]), ([4], [4]), ([5, 6, 4], [4, 5, 6]), ([7, 4], [4, 7]), ([4], [4]), ([4], [4]), ([9, 10, 4], [4, 9, 10]), ([11, 4], [4, 11]), ([8, 12, 4, 4], [4, 8, 12]), ([13, 4], [4, 13]), ([4, 14], [4, 14])])
def heap_sink.B3 : List Nat := [0, 0, 2, 7, 15, 31, 31, 127, 255, 31, 31, 1567, 3615, 8191, 16383, 32767]
theorem heap_sink.tab3 : rtab .any (opsOf Try.f29 3) = heap_sink.T3 := by kernel_rfl
theorem heap_sink.bits3 : waitsOk heap_sink.T3.2 heap_sink.B3 = true := by kernel_rfl
def heap_sink.T4 : Bool × List (List Nat × List Nat) := (true, [([], []), ([], []), ([], []), ([], []), ([], []), ([], []), ([4, 5], [4, 5]), ([6], [6]), ([], []), ([], []), ([8, 9], [8, 9]), ([10], [10]), ([0, 1, 0, 1, 4, 5, 6, 7, 11], [0, 1]), ([12, 7, 0, 1, 4, 5, 6, 7, 11], [7, 12]), ([2, 3, 0, 1, 2, 3, 4, 5, 6, 7, 8, 9, 10, 11, 12, 13], [2, 3]), ([14, 11, 13, 0, 1, 2, 3, 4, 5, 6, 7, 8, 9, 10, 11, 12, 13], [11, 14])])
def heap_sink.B4 : List Nat := [0, 0, 0, 0, 0, 0, 48, 112, 0, 0, 768, 1792, 4083, 8179, 16383, 32767]
theorem heap_sink.tab4 : rtab .any (opsOf Try.f29 4) = heap_sink.T4 := by kernel_rfl
theorem heap_sink.bits4 : waitsOk heap_sink.T4.2 heap_sink.B4 = true := by kernel_rfl
set_option maxHeartbeats 8000000 in
set_option maxRecDepth 100000 in
theorem heap_sink.calls (k : Nat) (P0_ : Nat → Prop) (u9000_ : Value) (l0 : List (S25)) (a1 : Int) (r : List (S25)) (w0 w : World) (hB : Below w0.heap.size w0 w) (ho0 : Kd.R k25 25 w w0.heap.size P0_ u9000_ l0) (h : heap_sink.f k l0 a1 = some r) :
  Calls Try.prog 29 #[u9000_, .int .i64 a1] w fun e w' => e = .returned (.tuple #[]) ∧ Kd.R k25 25 w' w0.heap.size (fun k_ => (P0_ k_ ∨ w.heap.size ≤ k_)) u9000_ r ∧ Below w0.heap.size w0 w' ∧ Kept w w' (fun k_ => P0_ k_) := by
 have hu25 := Try.underlying25
 have HO0 := Aside0.mk (show Kd.R k25 25 w w0.heap.size (fun k_ => (P0_ k_ ∨ w.heap.size ≤ k_)) u9000_ l0 from Kd.R_mono ho0 (fun k_ hk => (.inl hk)))
 have HK := Aside0.mk (Kept.refl w (fun k_ => P0_ k_))
 have HW0 := Aside0.mk hB.size
 have HB := Aside0.mk hB
 clear hB
 have H : (heap_sink.l0 k l0 a1) = some r := h
 clear h
 have H' := Aside0.mk H
 clear H
 go_enter Try.func29, Try.ntmps29
 go_wp2
 go_loopg [1] k (fun kq v1 w' => ∃ (x0_1 : List (S25)) (x1_1 : Int), v1 = .int .i64 x1_1 ∧ Aside0 (heap_sink.l0 kq x0_1 x1_1 = some r) ∧ Aside0 (kq ≤ k) ∧ Aside0 (Kd.R k25 25 w' w0.heap.size (fun k_ => (P0_ k_ ∨ w.heap.size ≤ k_)) u9000_ x0_1) ∧ Aside0 (Kept w w' (fun k_ => P0_ k_)) ∧ Aside0 (Below w0.heap.size w0 w'))
 case atStart => exact ⟨(l0), (a1), (by first | rfl | (simp; done) | (simp [*]; done)), H', ⟨Nat.le_refl _⟩, ⟨by (with_reducible repeat (first | apply Kd.R_alloc | apply Kd.R_drewN | apply Kd.R_drew)); exact HO0.out⟩, ⟨by repeat (first | (with_reducible first | exact HK.out | apply Kept.alloc | apply Kept.drewN | apply Kept.drew) | exact HK.out)⟩, ⟨by repeat (first | (with_reducible first | exact HB.out | apply below_alloc | apply pw_below_drewN | apply below_drew1) | exact HB.out)⟩⟩
 case round =>
  clear H'
  try clear c2
  try clear p2
  obtain ⟨x0_1, x1_1, rfl, HA, HK1, HO_0, HK, HB⟩ := hrel
  cases gk with
  | zero => exact absurd HA.out (by simp [heap_sink.l0])
  | succ k1 =>
   have H := HA.out
   clear HA
   simp only [heap_sink.l0] at H
   have HC3 := Aside0.mk H
   clear H
   go_upto_region 1 with (fail)
   go_cut [25] (fun v25 wc => ∃ (kq : Nat) (x25_2 : Bool), v25 = .bool x25_2 ∧ Aside0 (heap_sink.j1 kq x0_1 x1_1 (wrap64 ((wrap64 (2 * x1_1)) + 1)) x25_2 = some r) ∧ Aside0 (kq ≤ k1) ∧ Aside0 (Kd.R k25 25 wc w0.heap.size (fun k_ => (P0_ k_ ∨ w.heap.size ≤ k_)) u9000_ x0_1) ∧ Aside0 (Kept w wc (fun k_ => P0_ k_)) ∧ Aside0 (Below w0.heap.size w0 wc))
   case first =>
    have H := HC3.out
    clear HC3
    by_cases c4 : (wrap64 ((wrap64 ((wrap64 (2 * x1_1)) + 1)) + 1)) < (x0_1.length : Int)
    ·
     rw [if_pos c4] at H
     have c4b0 : decide ((wrap64 ((wrap64 ((wrap64 (2 * x1_1)) + 1)) + 1)) < (x0_1.length : Int)) = true := decide_eq_true c4
     clear c4
     (first | rw [c4b0] | (simp only [i64_w, i32_w]; rw [c4b0]) | skip)
     obtain ⟨ji5, hji5⟩ : ∃ j_ : Int, (wrap64 ((wrap64 ((wrap64 (2 * x1_1)) + 1)) + 1)) = j_ := ⟨_, rfl⟩
     replace H : (if 0 ≤ (ji5) then (if 0 ≤ (wrap64 ((wrap64 (2 * x1_1)) + 1)) then (if (wrap64 ((wrap64 (2 * x1_1)) + 1)) < (x0_1.length : Int) then ((rank_Cmp.f k1 ((rd_T25 x0_1 (ji5)).f0) ((rd_T25 x0_1 (ji5)).f1) ((rd_T25 x0_1 (ji5)).f2) ((rd_T25 x0_1 (wrap64 ((wrap64 (2 * x1_1)) + 1))).f0) ((rd_T25 x0_1 (wrap64 ((wrap64 (2 * x1_1)) + 1))).f1) ((rd_T25 x0_1 (wrap64 ((wrap64 (2 * x1_1)) + 1))).f2)).bind fun t156 => (heap_sink.j1 k1 x0_1 x1_1 (wrap64 ((wrap64 (2 * x1_1)) + 1)) (decide (t156 > 0)))) else (none)) else (none)) else (none)) = some r := by first | (rw [hji5] at H; exact H) | (simp only [hji5] at H ⊢; exact H)
     (try rw [hji5])
     (try rw [hji5] at c4b0)
     have hji5w : (IntKind.i64.wrap ((wrap64 ((wrap64 (2 * x1_1)) + 1)) + 1)) = ji5 := (i64_w _).trans hji5
     by_cases c6 : 0 ≤ (ji5)
     ·
      rw [if_pos c6] at H
      have c6b0 : decide (0 ≤ (ji5)) = true := decide_eq_true c6
      clear c6
      obtain ⟨ji7, hji7⟩ : ∃ j_ : Int, (wrap64 ((wrap64 (2 * x1_1)) + 1)) = j_ := ⟨_, rfl⟩
      replace H : (if 0 ≤ (ji7) then (if (ji7) < (x0_1.length : Int) then ((rank_Cmp.f k1 ((rd_T25 x0_1 (ji5)).f0) ((rd_T25 x0_1 (ji5)).f1) ((rd_T25 x0_1 (ji5)).f2) ((rd_T25 x0_1 (ji7)).f0) ((rd_T25 x0_1 (ji7)).f1) ((rd_T25 x0_1 (ji7)).f2)).bind fun t156 => (heap_sink.j1 k1 x0_1 x1_1 ji7 (decide (t156 > 0)))) else (none)) else (none)) = some r := by first | (rw [hji7] at H; exact H) | (simp only [hji7] at H ⊢; exact H)
      (try rw [hji7])
      (try rw [hji7] at c4b0)
      have hji7w : (IntKind.i64.wrap ((wrap64 (2 * x1_1)) + 1)) = ji7 := (i64_w _).trans hji7
      have hji5xji7 : (wrap64 (ji7 + 1)) = ji5 := by first | (rw [← hji7]; exact hji5) | exact hji5
      by_cases c8 : 0 ≤ (ji7)
      ·
       rw [if_pos c8] at H
       have c8b0 : decide (0 ≤ (ji7)) = true := decide_eq_true c8
       clear c8
       by_cases c9 : (ji7) < (x0_1.length : Int)
       ·
        rw [if_pos c9] at H
        have c9b0 : decide ((ji7) < (x0_1.length : Int)) = true := decide_eq_true c9
        clear c9
        replace H := Option.bind_eq_some_iff.mp H
        obtain ⟨t156, A100, H⟩ := H
        replace H : (heap_sink.j1 k1 x0_1 x1_1 ji7 (decide (t156 > 0))) = some r := H
        have A10 := Aside0.mk A100
        clear A100
        have H' := Aside0.mk H
        clear H
        try go_wp2
        have n0_ := Aside0.mk (Kd.R_drew HO_0.out)
        have n1_ := Aside0.mk (Kept.drew HK.out)
        have n2_ := Aside0.mk (below_drew1 HB.out)
        clear HO_0 HK HB
        have HO_0 := n0_
        have HK := n1_
        have HB := n2_
        clear n0_ n1_ n2_
        obtain ⟨Ao12, co12, eo12⟩ := Kd.R_slice HO_0.out
        (first | subst eo12 | (injection eo12 with f1_ f2_ f3_; have f4_ := f1_.symm; have f5_ := f3_.symm; clear f1_ f2_ f3_; subst f4_; subst f5_))
        have p154 : 0 ≤ ((ji5) : Int) := of_decide_eq_true (by first | (with_reducible assumption) | assumption)
        have q154 : (ji5) < (x0_1.length : Int) := of_decide_eq_true (by first | (with_reducible assumption) | assumption)
        obtain ⟨ad154, e154, hx154_0, hx154_1, hx154_2⟩ := at_T25 (Kd.R_reads' HO_0.out).2.2 (ji5) p154 q154
        cases e154
        replace p154 := eq_true p154
        replace q154 := eq_true q154
        have p155 : 0 ≤ ((ji7) : Int) := of_decide_eq_true (by first | (with_reducible assumption) | assumption)
        have q155 : (ji7) < (x0_1.length : Int) := of_decide_eq_true (by first | (with_reducible assumption) | assumption)
        obtain ⟨ad155, e155, hx155_0, hx155_1, hx155_2⟩ := at_T25 (Kd.R_reads' HO_0.out).2.2 (ji7) p155 q155
        obtain rfl : ad154 = ad155 := (by injection e155)
        replace p155 := eq_true p155
        replace q155 := eq_true q155
        refine start_ (n := 18) (S := fun w' => w'.cell? (ad154.add (((ji5)).toNat * 3)) = some (.string ((rd_T25 x0_1 (ji5)).f0)) ∧ w'.cell? ⟨(ad154.add (((ji5)).toNat * 3)).block, (ad154.add (((ji5)).toNat * 3)).off + 1, none⟩ = some (.int .u64 ((rd_T25 x0_1 (ji5)).f1)) ∧ w'.cell? ⟨(ad154.add (((ji5)).toNat * 3)).block, (ad154.add (((ji5)).toNat * 3)).off + 2, none⟩ = some (.int .u64 ((rd_T25 x0_1 (ji5)).f2)) ∧ w'.cell? (ad154.add (((ji7)).toNat * 3)) = some (.string ((rd_T25 x0_1 (ji7)).f0)) ∧ w'.cell? ⟨(ad154.add (((ji7)).toNat * 3)).block, (ad154.add (((ji7)).toNat * 3)).off + 1, none⟩ = some (.int .u64 ((rd_T25 x0_1 (ji7)).f1)) ∧ w'.cell? ⟨(ad154.add (((ji7)).toNat * 3)).block, (ad154.add (((ji7)).toNat * 3)).off + 2, none⟩ = some (.int .u64 ((rd_T25 x0_1 (ji7)).f2))) (ds := []) #[false, false, false, false, false, false, false, false, false, false, false, false, false, false, false, false, false, false] (by kernel_rfl) rfl rfl ⟨hx154_0, hx154_1, hx154_2, hx155_0, hx155_1, hx155_2⟩ (fun hHeld => ?_); refine with_tabW heap_sink.tab1 heap_sink.bits1 (fun HT_ HW_ => ?_)
        generalize wr.drew = w11 at HO_0 HK HB hx154_0 hx154_1 hx154_2 hx155_0 hx155_1 hx155_2 hHeld ⊢
        refine pure_ (i := 0) (N := some 8) (v := ?_) (a' := ?_) #[true, false, false, false, false, false, false, false, false, false, false, false, false, false, false, false, false, false] rfl rfl (any_of HT_.out (by kernel_rfl)) (fun _ _ _ h => h) (Or.inl ⟨by rfl, ?_⟩) ?_ ?_
        rotate_left
        ·
         intro w'
         go_simp
         with_reducible rfl
        rotate_left
        · exact bA
        refine pure_ (i := 1) (N := some 9) (v := ?_) (a' := ?_) #[true, true, false, false, false, false, false, false, false, false, false, false, false, false, false, false, false, false] rfl rfl (any_of HT_.out (by kernel_rfl)) (fun _ _ _ h => h) (Or.inl ⟨by rfl, ?_⟩) ?_ ?_
        rotate_left
        ·
         intro w'
         go_simp
         with_reducible rfl
        rotate_left
        · exact bA
        refine pure_ (i := 2) (N := some 10) (v := ?_) (a' := ?_) #[true, true, true, false, false, false, false, false, false, false, false, false, false, false, false, false, false, false] rfl rfl (any_of HT_.out (by kernel_rfl)) (fun _ _ _ h => h) (Or.inl ⟨by rfl, ?_⟩) ?_ ?_
        rotate_left
        ·
         intro w'
         go_simp
         with_reducible rfl
        rotate_left
        · exact bA
        refine pure_ (i := 3) (N := some 11) (v := ?_) (a' := ?_) #[true, true, true, true, false, false, false, false, false, false, false, false, false, false, false, false, false, false] rfl rfl (any_of HT_.out (by kernel_rfl)) (fun _ _ _ h => h) (Or.inl ⟨by rfl, ?_⟩) ?_ ?_
        rotate_left
        ·
         intro w'
         go_simp
         with_reducible rfl
        rotate_left
        · exact bA
        refine pure_ (i := 4) (N := some 12) (v := ?_) (a' := ?_) #[true, true, true, true, true, false, false, false, false, false, false, false, false, false, false, false, false, false] rfl rfl (any_of HT_.out (by kernel_rfl)) (fun _ _ _ h => h) (Or.inl ⟨by rfl, ?_⟩) ?_ ?_
        rotate_left
        ·
         intro w'
         go_simp
         with_reducible rfl
        rotate_left
        · exact bA
        refine pure_ (i := 5) (N := some 13) (v := ?_) (a' := ?_) #[true, true, true, true, true, true, false, false, false, false, false, false, false, false, false, false, false, false] rfl rfl (any_of HT_.out (by kernel_rfl)) (fun _ _ _ h => h) (Or.inl ⟨by rfl, ?_⟩) ?_ ?_
        rotate_left
        ·
         intro w'
         go_simp
         with_reducible rfl
        rotate_left
        · exact bA
        refine pure_ (i := 6) (N := some 14) (v := ?_) (a' := ?_) #[true, true, true, true, true, true, true, false, false, false, false, false, false, false, false, false, false, false] rfl rfl (any_of HT_.out (by kernel_rfl)) (fun _ _ _ h => h) (Or.inl ⟨by rfl, ?_⟩) ?_ ?_
        rotate_left
        ·
         intro w'
         go_simp
         with_reducible rfl
        rotate_left
        · exact bA
        refine pure_ (i := 7) (N := some 15) (v := ?_) (a' := ?_) #[true, true, true, true, true, true, true, true, false, false, false, false, false, false, false, false, false, false] rfl rfl (any_of HT_.out (by kernel_rfl)) (fun _ _ _ h => h) (Or.inl ⟨by rfl, ?_⟩) ?_ ?_
        rotate_left
        ·
         intro w'
         go_simp
         with_reducible rfl
        rotate_left
        · exact bA
        refine pure_ (i := 8) (N := some 16) (v := ?_) (a' := ?_) #[true, true, true, true, true, true, true, true, true, false, false, false, false, false, false, false, false, false] rfl rfl (any_of HT_.out (by kernel_rfl)) (fun _ _ _ h => h) (Or.inl ⟨by rfl, ?_⟩) ?_ ?_
        rotate_left
        ·
         intro w'
         go_simp
         with_reducible rfl
        rotate_left
        · exact bA
        refine pure_ (i := 9) (N := some 17) (v := ?_) (a' := ?_) #[true, true, true, true, true, true, true, true, true, true, false, false, false, false, false, false, false, false] rfl rfl (any_of HT_.out (by kernel_rfl)) (fun _ _ _ h => h) (Or.inl ⟨by rfl, ?_⟩) ?_ ?_
        rotate_left
        ·
         intro w'
         go_simp
         with_reducible rfl
        rotate_left
        · exact bA
        refine pure_ (i := 11) (N := some 19) (v := ?_) (a' := ?_) #[true, true, true, true, true, true, true, true, true, true, false, true, false, false, false, false, false, false] rfl rfl (any_of HT_.out (by kernel_rfl)) (fun _ _ _ h => h) (Or.inl ⟨by rfl, ?_⟩) ?_ ?_
        rotate_left
        ·
         intro w'
         go_simp
         with_reducible rfl
        rotate_left
        · exact bA
        refine pure_ (i := 12) (N := some 20) (v := ?_) (a' := ?_) #[true, true, true, true, true, true, true, true, true, true, false, true, true, false, false, false, false, false] rfl rfl (any_of HT_.out (by kernel_rfl)) (fun _ _ _ h => h) (Or.inl ⟨by rfl, ?_⟩) ?_ ?_
        rotate_left
        ·
         intro w'
         go_simp
         with_reducible rfl
        rotate_left
        · exact bA
        refine pure_ (i := 13) (N := some 21) (v := ?_) (a' := ?_) #[true, true, true, true, true, true, true, true, true, true, false, true, true, true, false, false, false, false] rfl rfl (any_of HT_.out (by kernel_rfl)) (fun _ _ _ h => h) (Or.inl ⟨by rfl, ?_⟩) ?_ ?_
        rotate_left
        ·
         intro w'
         go_simp
         with_reducible rfl
        rotate_left
        · exact bA
        refine take_ (i := 10) (N := some 18) (v := ?_) (a' := ?_) #[true, true, true, true, true, true, true, true, true, true, true, true, true, true, false, false, false, false] rfl rfl (take_ofW HT_.out HW_.out (by kernel_rfl)) (fun _ _ _ h => h) (Or.inl ⟨by rfl, ?_⟩) hHeld ?_ ?_
        rotate_left
        ·
         rintro w' ⟨s0, s1, s2, s3, s4, s5⟩
         (try simp only [add_plain] at s0 s1 s2 s3 s4 s5)
         go_simp
         with_reducible rfl
        rotate_left
        · exact bA
        refine take_ (i := 14) (N := some 22) (v := ?_) (a' := ?_) #[true, true, true, true, true, true, true, true, true, true, true, true, true, true, true, false, false, false] rfl rfl (take_ofW HT_.out HW_.out (by kernel_rfl)) (fun _ _ _ h => h) (Or.inl ⟨by rfl, ?_⟩) hHeld ?_ ?_
        rotate_left
        ·
         rintro w' ⟨s0, s1, s2, s3, s4, s5⟩
         (try simp only [add_plain] at s0 s1 s2 s3 s4 s5)
         go_simp
         with_reducible rfl
        rotate_left
        · exact bA
        refine one_ (i := 15) (N := some 23) #[true, true, true, true, true, true, true, true, true, true, true, true, true, true, true, true, false, false] rfl rfl (one_of HT_.out (by kernel_rfl)) (by decide) (fun K hK => ?_)
        refine goes_ Try.func23 (by kernel_rfl) rfl #[.agg #[.string ((rd_T25 x0_1 (ji5)).f0), .int .u64 ((rd_T25 x0_1 (ji5)).f1), .int .u64 ((rd_T25 x0_1 (ji5)).f2)], .agg #[.string ((rd_T25 x0_1 (ji7)).f0), .int .u64 ((rd_T25 x0_1 (ji7)).f1), .int .u64 ((rd_T25 x0_1 (ji7)).f2)]] (by rfl) rfl rfl (by (try simp only [List.map_toArray, List.map_cons, List.map_nil]); first | done | (simp only [hji5, hji7]; rfl) | rfl | (simp only [List.length_drop, List.length_take]; rfl)) ?_
        with_reducible refine (rank_Cmp.calls k1 ((rd_T25 x0_1 (ji5)).f0) ((rd_T25 x0_1 (ji5)).f1) ((rd_T25 x0_1 (ji5)).f2) ((rd_T25 x0_1 (ji7)).f0) ((rd_T25 x0_1 (ji7)).f1) ((rd_T25 x0_1 (ji7)).f2) t156 _ A10.out).mono ?_
        rintro e w13 ⟨rfl, hb⟩
        have HS0_ := (hb.cell (World.block_lt_of_cell? _ _ (hHeld.1))).trans (hHeld.1)
        have HS1_ := (hb.cell (World.block_lt_of_cell? _ _ (hHeld.2.1))).trans (hHeld.2.1)
        have HS2_ := (hb.cell (World.block_lt_of_cell? _ _ (hHeld.2.2.1))).trans (hHeld.2.2.1)
        have HS3_ := (hb.cell (World.block_lt_of_cell? _ _ (hHeld.2.2.2.1))).trans (hHeld.2.2.2.1)
        have HS4_ := (hb.cell (World.block_lt_of_cell? _ _ (hHeld.2.2.2.2.1))).trans (hHeld.2.2.2.2.1)
        have HS5_ := (hb.cell (World.block_lt_of_cell? _ _ (hHeld.2.2.2.2.2))).trans (hHeld.2.2.2.2.2)
        refine ⟨_, rfl, ?_⟩
        have n0_ := Aside0.mk (Kd.R_below (by (with_reducible repeat (first | apply Kd.R_alloc | apply Kd.R_drewN | apply Kd.R_drew)); exact HO_0.out) hb)
        have n1_ := Aside0.mk (Kept.below (S := (fun k_ => P0_ k_)) (by repeat (first | (with_reducible first | exact HK.out | apply Kept.alloc | apply Kept.drewN | apply Kept.drew) | exact HK.out)) hb)
        have n2_ := Aside0.mk (below_step (bW HB.out) hb)
        clear HO_0 HK HB
        have HO_0 := n0_
        have HK := n1_
        have HB := n2_
        clear n0_ n1_ n2_
        (try clear hb)
        (try clear hb2)
        (try clear hk)
        (try clear hi)
        refine hK.out _ _ ⟨HS0_, HS1_, HS2_, HS3_, HS4_, HS5_⟩ (fun hHeld => ?_)
        clear hK K
        refine norm_ (a' := ?_) ?_ ?_
        rotate_left
        ·
         show Act.put _ (some 23) _ = _
         simp only [Act.put, List.setIfInBounds_toArray, List.set_cons_zero, List.set_cons_succ, i64_w, i32_w]
         rfl
        refine pure_ (i := 16) (N := some 24) (v := ?_) (a' := ?_) #[true, true, true, true, true, true, true, true, true, true, true, true, true, true, true, true, true, false] rfl rfl (any_of HT_.out (by kernel_rfl)) (fun _ _ _ h => h) (Or.inl ⟨by rfl, ?_⟩) ?_ ?_
        rotate_left
        ·
         intro w'
         go_simp
         with_reducible rfl
        rotate_left
        · exact bA
        refine pure_ (i := 17) (N := some 25) (v := ?_) (a' := ?_) #[true, true, true, true, true, true, true, true, true, true, true, true, true, true, true, true, true, true] rfl rfl (any_of HT_.out (by kernel_rfl)) (fun _ _ _ h => h) (Or.inl ⟨by rfl, ?_⟩) ?_ ?_
        rotate_left
        ·
         intro w'
         go_simp
         with_reducible rfl
        rotate_left
        · exact bA
        refine done_ (done_of HT_.out (by kernel_rfl)) ?_
        try go_wp2
        (try subst hji5)
        (try subst hji7)
        go_meet
        case rel => exact ⟨_, (decide (t156 > 0)), (by first | rfl | (simp; done) | (simp [*]; done)), H', ⟨by have := HK1.out; first | omega | exact Nat.le_refl _⟩, ⟨by (with_reducible repeat (first | apply Kd.R_alloc | apply Kd.R_drewN | apply Kd.R_drew)); exact HO_0.out⟩, ⟨by repeat (first | (with_reducible first | exact HK.out | apply Kept.alloc | apply Kept.drewN | apply Kept.drew) | exact HK.out)⟩, ⟨by repeat (first | (with_reducible first | exact HB.out | apply below_alloc | apply pw_below_drewN | apply below_drew1) | exact HB.out)⟩⟩
       ·
        rw [if_neg c9] at H
        exact absurd H (by simp)
      ·
       rw [if_neg c8] at H
       exact absurd H (by simp)
     ·
      rw [if_neg c6] at H
      exact absurd H (by simp)
    ·
     rw [if_neg c4] at H
     have c4b0 : decide ((wrap64 ((wrap64 ((wrap64 (2 * x1_1)) + 1)) + 1)) < (x0_1.length : Int)) = false := decide_eq_false c4
     clear c4
     (first | rw [c4b0] | (simp only [i64_w, i32_w]; rw [c4b0]) | skip)
     have H' := Aside0.mk H
     clear H
     try go_wp2
     have n0_ := Aside0.mk (Kd.R_drew HO_0.out)
     have n1_ := Aside0.mk (Kept.drew HK.out)
     have n2_ := Aside0.mk (below_drew1 HB.out)
     clear HO_0 HK HB
     have HO_0 := n0_
     have HK := n1_
     have HB := n2_
     clear n0_ n1_ n2_
     obtain ⟨Ao15, co15, eo15⟩ := Kd.R_slice HO_0.out
     (first | subst eo15 | (injection eo15 with f1_ f2_ f3_; have f4_ := f1_.symm; have f5_ := f3_.symm; clear f1_ f2_ f3_; subst f4_; subst f5_))
     refine start_ (n := 18) (S := fun w' => True) (ds := []) #[false, false, false, false, false, false, false, false, false, false, false, false, false, false, false, false, false, false] (by kernel_rfl) rfl rfl trivial (fun hHeld => ?_); refine with_tabW heap_sink.tab1 heap_sink.bits1 (fun HT_ HW_ => ?_)
     generalize wr.drew = w14 at HO_0 HK HB hHeld ⊢
     refine pure_ (i := 0) (N := some 8) (v := ?_) (a' := ?_) #[true, false, false, false, false, false, false, false, false, false, false, false, false, false, false, false, false, false] rfl rfl (any_of HT_.out (by kernel_rfl)) (fun _ _ _ h => h) (Or.inl ⟨by rfl, ?_⟩) ?_ ?_
     rotate_left
     ·
      intro w'
      go_simp
      with_reducible rfl
     rotate_left
     · exact bA
     refine pure_ (i := 1) (N := some 9) (v := ?_) (a' := ?_) #[true, true, false, false, false, false, false, false, false, false, false, false, false, false, false, false, false, false] rfl rfl (any_of HT_.out (by kernel_rfl)) (fun _ _ _ h => h) (Or.inl ⟨by rfl, ?_⟩) ?_ ?_
     rotate_left
     ·
      intro w'
      go_simp
      with_reducible rfl
     rotate_left
     · exact bA
     refine pure_ (i := 2) (N := some 10) (v := ?_) (a' := ?_) #[true, true, true, false, false, false, false, false, false, false, false, false, false, false, false, false, false, false] rfl rfl (any_of HT_.out (by kernel_rfl)) (fun _ _ _ h => h) (Or.inl ⟨by rfl, ?_⟩) ?_ ?_
     rotate_left
     ·
      intro w'
      go_simp
      with_reducible rfl
     rotate_left
     · exact bA
     refine pure_ (i := 3) (N := some 11) (v := ?_) (a' := ?_) #[true, true, true, true, false, false, false, false, false, false, false, false, false, false, false, false, false, false] rfl rfl (any_of HT_.out (by kernel_rfl)) (fun _ _ _ h => h) (Or.inl ⟨by rfl, ?_⟩) ?_ ?_
     rotate_left
     ·
      intro w'
      go_simp
      with_reducible rfl
     rotate_left
     · exact bA
     refine pure_ (i := 4) (N := some 12) (v := ?_) (a' := ?_) #[true, true, true, true, true, false, false, false, false, false, false, false, false, false, false, false, false, false] rfl rfl (any_of HT_.out (by kernel_rfl)) (fun _ _ _ h => h) (Or.inl ⟨by rfl, ?_⟩) ?_ ?_
     rotate_left
     ·
      intro w'
      go_simp
      with_reducible rfl
     rotate_left
     · exact bA
     refine pure_ (i := 5) (N := some 13) (v := ?_) (a' := ?_) #[true, true, true, true, true, true, false, false, false, false, false, false, false, false, false, false, false, false] rfl rfl (any_of HT_.out (by kernel_rfl)) (fun _ _ _ h => h) (Or.inl ⟨by rfl, ?_⟩) ?_ ?_
     rotate_left
     ·
      intro w'
      go_simp
      with_reducible rfl
     rotate_left
     · exact bA
     refine pure_ (i := 6) (N := some 14) (v := undef) (a' := ?_) #[true, true, true, true, true, true, true, false, false, false, false, false, false, false, false, false, false, false] rfl rfl (any_of HT_.out (by kernel_rfl)) (fun _ _ _ h => h) (Or.inr ⟨by rfl, rfl⟩) ?_ ?_
     rotate_left
     · exact bA
     refine pure_ (i := 7) (N := some 15) (v := undef) (a' := ?_) #[true, true, true, true, true, true, true, true, false, false, false, false, false, false, false, false, false, false] rfl rfl (any_of HT_.out (by kernel_rfl)) (fun _ _ _ h => h) (Or.inr ⟨by rfl, rfl⟩) ?_ ?_
     rotate_left
     · exact bA
     refine pure_ (i := 8) (N := some 16) (v := undef) (a' := ?_) #[true, true, true, true, true, true, true, true, true, false, false, false, false, false, false, false, false, false] rfl rfl (any_of HT_.out (by kernel_rfl)) (fun _ _ _ h => h) (Or.inr ⟨by rfl, rfl⟩) ?_ ?_
     rotate_left
     · exact bA
     refine pure_ (i := 9) (N := some 17) (v := undef) (a' := ?_) #[true, true, true, true, true, true, true, true, true, true, false, false, false, false, false, false, false, false] rfl rfl (any_of HT_.out (by kernel_rfl)) (fun _ _ _ h => h) (Or.inr ⟨by rfl, rfl⟩) ?_ ?_
     rotate_left
     · exact bA
     refine pure_ (i := 10) (N := some 18) (v := undef) (a' := ?_) #[true, true, true, true, true, true, true, true, true, true, true, false, false, false, false, false, false, false] rfl rfl (any_of HT_.out (by kernel_rfl)) (fun _ _ _ h => h) (Or.inr ⟨by rfl, rfl⟩) ?_ ?_
     rotate_left
     · exact bA
     refine pure_ (i := 11) (N := some 19) (v := undef) (a' := ?_) #[true, true, true, true, true, true, true, true, true, true, true, true, false, false, false, false, false, false] rfl rfl (any_of HT_.out (by kernel_rfl)) (fun _ _ _ h => h) (Or.inr ⟨by rfl, rfl⟩) ?_ ?_
     rotate_left
     · exact bA
     refine pure_ (i := 12) (N := some 20) (v := undef) (a' := ?_) #[true, true, true, true, true, true, true, true, true, true, true, true, true, false, false, false, false, false] rfl rfl (any_of HT_.out (by kernel_rfl)) (fun _ _ _ h => h) (Or.inr ⟨by rfl, rfl⟩) ?_ ?_
     rotate_left
     · exact bA
     refine pure_ (i := 13) (N := some 21) (v := undef) (a' := ?_) #[true, true, true, true, true, true, true, true, true, true, true, true, true, true, false, false, false, false] rfl rfl (any_of HT_.out (by kernel_rfl)) (fun _ _ _ h => h) (Or.inr ⟨by rfl, rfl⟩) ?_ ?_
     rotate_left
     · exact bA
     refine pure_ (i := 14) (N := some 22) (v := undef) (a' := ?_) #[true, true, true, true, true, true, true, true, true, true, true, true, true, true, true, false, false, false] rfl rfl (any_of HT_.out (by kernel_rfl)) (fun _ _ _ h => h) (Or.inr ⟨by rfl, rfl⟩) ?_ ?_
     rotate_left
     · exact bA
     refine pure_ (i := 15) (N := some 23) (v := undef) (a' := ?_) #[true, true, true, true, true, true, true, true, true, true, true, true, true, true, true, true, false, false] rfl rfl (any_of HT_.out (by kernel_rfl)) (fun _ _ _ h => h) (Or.inr ⟨by rfl, rfl⟩) ?_ ?_
     rotate_left
     · exact bA
     refine pure_ (i := 16) (N := some 24) (v := undef) (a' := ?_) #[true, true, true, true, true, true, true, true, true, true, true, true, true, true, true, true, true, false] rfl rfl (any_of HT_.out (by kernel_rfl)) (fun _ _ _ h => h) (Or.inr ⟨by rfl, rfl⟩) ?_ ?_
     rotate_left
     · exact bA
     refine pure_ (i := 17) (N := some 25) (v := ?_) (a' := ?_) #[true, true, true, true, true, true, true, true, true, true, true, true, true, true, true, true, true, true] rfl rfl (any_of HT_.out (by kernel_rfl)) (fun _ _ _ h => h) (Or.inl ⟨by rfl, ?_⟩) ?_ ?_
     rotate_left
     ·
      intro w'
      go_simp
      with_reducible rfl
     rotate_left
     · exact bA
     refine done_ (done_of HT_.out (by kernel_rfl)) ?_
     try go_wp2
     go_meet
     case rel => exact ⟨_, (false), (by first | rfl | (simp; done) | (simp [*]; done)), H', ⟨by have := HK1.out; first | omega | exact Nat.le_refl _⟩, ⟨by (with_reducible repeat (first | apply Kd.R_alloc | apply Kd.R_drewN | apply Kd.R_drew)); exact HO_0.out⟩, ⟨by repeat (first | (with_reducible first | exact HK.out | apply Kept.alloc | apply Kept.drewN | apply Kept.drew) | exact HK.out)⟩, ⟨by repeat (first | (with_reducible first | exact HB.out | apply below_alloc | apply pw_below_drewN | apply below_drew1) | exact HB.out)⟩⟩
   case rest =>
    clear HC3
    try clear p1
    try clear q1
    try clear hx1
    try clear c2
    try clear p2
    try clear c4
    try clear c4b0
    try clear c6
    try clear c6b0
    try clear p6
    try clear c8
    try clear c8b0
    try clear c9
    try clear c9b0
    try clear p15
    try clear q15
    try clear hx15
    try clear hx154_0
    try clear hx154_1
    try clear hx154_2
    try clear hx155_0
    try clear hx155_1
    try clear hx155_2
    try clear p154
    try clear p155
    try clear p2
    try clear q154
    try clear q155
    obtain ⟨kq, x25_2, rfl, HA, HJ2, HO_0, HK, HB⟩ := hcut
    cases kq with
    | zero => exact absurd HA.out (by simp [heap_sink.j1])
    | succ kj2 =>
     have H := HA.out
     clear HA
     simp only [heap_sink.j1] at H
     by_cases c16 : x25_2 = true
     ·
      subst c16
      have H1 : (if (wrap64 ((wrap64 ((wrap64 (2 * x1_1)) + 1)) + 1)) ≥ (x0_1.length : Int) then (some x0_1) else (if 0 ≤ (wrap64 ((wrap64 ((wrap64 (2 * x1_1)) + 1)) + 1)) then (if (wrap64 ((wrap64 ((wrap64 (2 * x1_1)) + 1)) + 1)) < (x0_1.length : Int) then (if 0 ≤ x1_1 then (if x1_1 < (x0_1.length : Int) then ((rank_Cmp.f kj2 ((rd_T25 x0_1 (wrap64 ((wrap64 ((wrap64 (2 * x1_1)) + 1)) + 1))).f0) ((rd_T25 x0_1 (wrap64 ((wrap64 ((wrap64 (2 * x1_1)) + 1)) + 1))).f1) ((rd_T25 x0_1 (wrap64 ((wrap64 ((wrap64 (2 * x1_1)) + 1)) + 1))).f2) ((rd_T25 x0_1 x1_1).f0) ((rd_T25 x0_1 x1_1).f1) ((rd_T25 x0_1 x1_1).f2)).bind fun t159 => (if t159 ≤ 0 then (some x0_1) else (heap_sink.l0 kj2 ((x0_1.set (x1_1 : Int).toNat (⟨(rd_T25 x0_1 (wrap64 ((wrap64 ((wrap64 (2 * x1_1)) + 1)) + 1))).f0, (rd_T25 x0_1 (wrap64 ((wrap64 ((wrap64 (2 * x1_1)) + 1)) + 1))).f1, (rd_T25 x0_1 (wrap64 ((wrap64 ((wrap64 (2 * x1_1)) + 1)) + 1))).f2⟩ : S25)).set ((wrap64 ((wrap64 ((wrap64 (2 * x1_1)) + 1)) + 1)) : Int).toNat (⟨(rd_T25 x0_1 x1_1).f0, (rd_T25 x0_1 x1_1).f1, (rd_T25 x0_1 x1_1).f2⟩ : S25)) (wrap64 ((wrap64 ((wrap64 (2 * x1_1)) + 1)) + 1))))) else (none)) else (none)) else (none)) else (none))) = some r := by rw [if_pos rfl] at H; exact H
      clear H
      have H := H1
      clear H1
      by_cases c17 : (wrap64 ((wrap64 ((wrap64 (2 * x1_1)) + 1)) + 1)) ≥ (x0_1.length : Int)
      ·
       rw [if_pos c17] at H
       have c17b0 : decide ((x0_1.length : Int) ≤ (wrap64 ((wrap64 ((wrap64 (2 * x1_1)) + 1)) + 1))) = true := decide_eq_true c17
       clear c17
       obtain rfl := Option.some.inj H
       try go_wp2
       have n0_ := Aside0.mk (Kd.R_drew HO_0.out)
       have n1_ := Aside0.mk (Kept.drew HK.out)
       have n2_ := Aside0.mk (below_drew1 HB.out)
       clear HO_0 HK HB
       have HO_0 := n0_
       have HK := n1_
       have HB := n2_
       clear n0_ n1_ n2_
       obtain ⟨Ao19, co19, eo19⟩ := Kd.R_slice HO_0.out
       (first | subst eo19 | (injection eo19 with f1_ f2_ f3_; have f4_ := f1_.symm; have f5_ := f3_.symm; clear f1_ f2_ f3_; subst f4_; subst f5_))
       refine start_ (n := 16) (S := fun w' => True) (ds := []) #[false, false, false, false, false, false, false, false, false, false, false, false, false, false, false, false] (by kernel_rfl) rfl rfl trivial (fun hHeld => ?_); refine with_tabW heap_sink.tab3 heap_sink.bits3 (fun HT_ HW_ => ?_)
       generalize wc.drew = w18 at HO_0 HK HB hHeld ⊢
       refine pure_ (i := 0) (N := some 28) (v := ?_) (a' := ?_) #[true, false, false, false, false, false, false, false, false, false, false, false, false, false, false, false] rfl rfl (any_of HT_.out (by kernel_rfl)) (fun _ _ _ h => h) (Or.inl ⟨by rfl, ?_⟩) ?_ ?_
       rotate_left
       ·
        intro w'
        go_simp
        with_reducible rfl
       rotate_left
       · exact bA
       refine pure_ (i := 1) (N := some 29) (v := ?_) (a' := ?_) #[true, true, false, false, false, false, false, false, false, false, false, false, false, false, false, false] rfl rfl (any_of HT_.out (by kernel_rfl)) (fun _ _ _ h => h) (Or.inl ⟨by rfl, ?_⟩) ?_ ?_
       rotate_left
       ·
        intro w'
        go_simp
        with_reducible rfl
       rotate_left
       · exact bA
       refine pure_ (i := 2) (N := some 30) (v := ?_) (a' := ?_) #[true, true, true, false, false, false, false, false, false, false, false, false, false, false, false, false] rfl rfl (any_of HT_.out (by kernel_rfl)) (fun _ _ _ h => h) (Or.inl ⟨by rfl, ?_⟩) ?_ ?_
       rotate_left
       ·
        intro w'
        go_simp
        with_reducible rfl
       rotate_left
       · exact bA
       refine pure_ (i := 3) (N := some 31) (v := ?_) (a' := ?_) #[true, true, true, true, false, false, false, false, false, false, false, false, false, false, false, false] rfl rfl (any_of HT_.out (by kernel_rfl)) (fun _ _ _ h => h) (Or.inl ⟨by rfl, ?_⟩) ?_ ?_
       rotate_left
       ·
        intro w'
        go_simp
        with_reducible rfl
       rotate_left
       · exact bA
       refine pure_ (i := 4) (N := some 32) (v := ?_) (a' := ?_) #[true, true, true, true, true, false, false, false, false, false, false, false, false, false, false, false] rfl rfl (any_of HT_.out (by kernel_rfl)) (fun _ _ _ h => h) (Or.inl ⟨by rfl, ?_⟩) ?_ ?_
       rotate_left
       ·
        intro w'
        go_simp
        with_reducible rfl
       rotate_left
       · exact bA
       refine pure_ (i := 5) (N := some 33) (v := undef) (a' := ?_) #[true, true, true, true, true, true, false, false, false, false, false, false, false, false, false, false] rfl rfl (any_of HT_.out (by kernel_rfl)) (fun _ _ _ h => h) (Or.inr ⟨by rfl, rfl⟩) ?_ ?_
       rotate_left
       · exact bA
       refine pure_ (i := 6) (N := some 34) (v := undef) (a' := ?_) #[true, true, true, true, true, true, true, false, false, false, false, false, false, false, false, false] rfl rfl (any_of HT_.out (by kernel_rfl)) (fun _ _ _ h => h) (Or.inr ⟨by rfl, rfl⟩) ?_ ?_
       rotate_left
       · exact bA
       refine pure_ (i := 7) (N := some 35) (v := undef) (a' := ?_) #[true, true, true, true, true, true, true, true, false, false, false, false, false, false, false, false] rfl rfl (any_of HT_.out (by kernel_rfl)) (fun _ _ _ h => h) (Or.inr ⟨by rfl, rfl⟩) ?_ ?_
       rotate_left
       · exact bA
       refine pure_ (i := 8) (N := some 36) (v := undef) (a' := ?_) #[true, true, true, true, true, true, true, true, true, false, false, false, false, false, false, false] rfl rfl (any_of HT_.out (by kernel_rfl)) (fun _ _ _ h => h) (Or.inr ⟨by rfl, rfl⟩) ?_ ?_
       rotate_left
       · exact bA
       refine pure_ (i := 9) (N := some 37) (v := undef) (a' := ?_) #[true, true, true, true, true, true, true, true, true, true, false, false, false, false, false, false] rfl rfl (any_of HT_.out (by kernel_rfl)) (fun _ _ _ h => h) (Or.inr ⟨by rfl, rfl⟩) ?_ ?_
       rotate_left
       · exact bA
       refine pure_ (i := 10) (N := some 38) (v := undef) (a' := ?_) #[true, true, true, true, true, true, true, true, true, true, true, false, false, false, false, false] rfl rfl (any_of HT_.out (by kernel_rfl)) (fun _ _ _ h => h) (Or.inr ⟨by rfl, rfl⟩) ?_ ?_
       rotate_left
       · exact bA
       refine pure_ (i := 11) (N := some 39) (v := undef) (a' := ?_) #[true, true, true, true, true, true, true, true, true, true, true, true, false, false, false, false] rfl rfl (any_of HT_.out (by kernel_rfl)) (fun _ _ _ h => h) (Or.inr ⟨by rfl, rfl⟩) ?_ ?_
       rotate_left
       · exact bA
       refine pure_ (i := 12) (N := some 40) (v := undef) (a' := ?_) #[true, true, true, true, true, true, true, true, true, true, true, true, true, false, false, false] rfl rfl (any_of HT_.out (by kernel_rfl)) (fun _ _ _ h => h) (Or.inr ⟨by rfl, rfl⟩) ?_ ?_
       rotate_left
       · exact bA
       refine pure_ (i := 13) (N := some 41) (v := undef) (a' := ?_) #[true, true, true, true, true, true, true, true, true, true, true, true, true, true, false, false] rfl rfl (any_of HT_.out (by kernel_rfl)) (fun _ _ _ h => h) (Or.inr ⟨by rfl, rfl⟩) ?_ ?_
       rotate_left
       · exact bA
       refine pure_ (i := 14) (N := some 42) (v := undef) (a' := ?_) #[true, true, true, true, true, true, true, true, true, true, true, true, true, true, true, false] rfl rfl (any_of HT_.out (by kernel_rfl)) (fun _ _ _ h => h) (Or.inr ⟨by rfl, rfl⟩) ?_ ?_
       rotate_left
       · exact bA
       refine pure_ (i := 15) (N := some 43) (v := ?_) (a' := ?_) #[true, true, true, true, true, true, true, true, true, true, true, true, true, true, true, true] rfl rfl (any_of HT_.out (by kernel_rfl)) (fun _ _ _ h => h) (Or.inl ⟨by rfl, ?_⟩) ?_ ?_
       rotate_left
       ·
        intro w'
        go_simp
        with_reducible rfl
       rotate_left
       · exact bA
       refine done_ (done_of HT_.out (by kernel_rfl)) ?_
       try go_wp2
       first | go_end0 | ((try simp only [Exit.inBlock, Exit.then]); refine bodyPost_ret (results_none rfl _ _ _) rfl ?_)
       exact ⟨by first | rfl | (simp [errW_none, errW_some] <;> rfl) | (simp [*, errW_none, errW_some] <;> rfl), by (with_reducible repeat (first | apply Kd.R_alloc | apply Kd.R_drewN | apply Kd.R_drew)); exact HO_0.out, by repeat (first | (with_reducible first | exact HB.out | apply below_alloc | apply pw_below_drewN | apply below_drew1) | exact HB.out), by repeat (first | (with_reducible first | exact HK.out | apply Kept.alloc | apply Kept.drewN | apply Kept.drew) | exact HK.out)⟩
      ·
       rw [if_neg c17] at H
       have c17b0 : decide ((x0_1.length : Int) ≤ (wrap64 ((wrap64 ((wrap64 (2 * x1_1)) + 1)) + 1))) = false := decide_eq_false c17
       clear c17
       obtain ⟨ji20, hji20⟩ : ∃ j_ : Int, (wrap64 ((wrap64 ((wrap64 (2 * x1_1)) + 1)) + 1)) = j_ := ⟨_, rfl⟩
       replace H : (if 0 ≤ (ji20) then (if (ji20) < (x0_1.length : Int) then (if 0 ≤ x1_1 then (if x1_1 < (x0_1.length : Int) then ((rank_Cmp.f kj2 ((rd_T25 x0_1 (ji20)).f0) ((rd_T25 x0_1 (ji20)).f1) ((rd_T25 x0_1 (ji20)).f2) ((rd_T25 x0_1 x1_1).f0) ((rd_T25 x0_1 x1_1).f1) ((rd_T25 x0_1 x1_1).f2)).bind fun t159 => (if t159 ≤ 0 then (some x0_1) else (heap_sink.l0 kj2 ((x0_1.set (x1_1 : Int).toNat (⟨(rd_T25 x0_1 (ji20)).f0, (rd_T25 x0_1 (ji20)).f1, (rd_T25 x0_1 (ji20)).f2⟩ : S25)).set ((ji20) : Int).toNat (⟨(rd_T25 x0_1 x1_1).f0, (rd_T25 x0_1 x1_1).f1, (rd_T25 x0_1 x1_1).f2⟩ : S25)) ji20))) else (none)) else (none)) else (none)) else (none)) = some r := by first | (rw [hji20] at H; exact H) | (simp only [hji20] at H ⊢; exact H)
       (try rw [hji20])
       (try rw [hji20] at c17b0)
       have hji20w : (IntKind.i64.wrap ((wrap64 ((wrap64 (2 * x1_1)) + 1)) + 1)) = ji20 := (i64_w _).trans hji20
       by_cases c21 : 0 ≤ (ji20)
       ·
        rw [if_pos c21] at H
        have c21b0 : decide (0 ≤ (ji20)) = true := decide_eq_true c21
        clear c21
        by_cases c22 : (ji20) < (x0_1.length : Int)
        ·
         rw [if_pos c22] at H
         have c22b0 : decide ((ji20) < (x0_1.length : Int)) = true := decide_eq_true c22
         clear c22
         by_cases c23 : 0 ≤ x1_1
         ·
          rw [if_pos c23] at H
          have c23b0 : decide (0 ≤ x1_1) = true := decide_eq_true c23
          clear c23
          by_cases c24 : x1_1 < (x0_1.length : Int)
          ·
           rw [if_pos c24] at H
           have c24b0 : decide (x1_1 < (x0_1.length : Int)) = true := decide_eq_true c24
           clear c24
           replace H := Option.bind_eq_some_iff.mp H
           obtain ⟨t159, A250, H⟩ := H
           replace H : (if t159 ≤ 0 then (some x0_1) else (heap_sink.l0 kj2 ((x0_1.set (x1_1 : Int).toNat (⟨(rd_T25 x0_1 (ji20)).f0, (rd_T25 x0_1 (ji20)).f1, (rd_T25 x0_1 (ji20)).f2⟩ : S25)).set ((ji20) : Int).toNat (⟨(rd_T25 x0_1 x1_1).f0, (rd_T25 x0_1 x1_1).f1, (rd_T25 x0_1 x1_1).f2⟩ : S25)) ji20)) = some r := H
           have A25 := Aside0.mk A250
           clear A250
           by_cases c26 : t159 ≤ 0
           ·
            rw [if_pos c26] at H
            have c26b0 : decide (t159 ≤ 0) = true := decide_eq_true c26
            clear c26
            obtain rfl := Option.some.inj H
            try go_wp2
            have n0_ := Aside0.mk (Kd.R_drew HO_0.out)
            have n1_ := Aside0.mk (Kept.drew HK.out)
            have n2_ := Aside0.mk (below_drew1 HB.out)
            clear HO_0 HK HB
            have HO_0 := n0_
            have HK := n1_
            have HB := n2_
            clear n0_ n1_ n2_
            obtain ⟨Ao28, co28, eo28⟩ := Kd.R_slice HO_0.out
            (first | subst eo28 | (injection eo28 with f1_ f2_ f3_; have f4_ := f1_.symm; have f5_ := f3_.symm; clear f1_ f2_ f3_; subst f4_; subst f5_))
            have p157 : 0 ≤ ((ji20) : Int) := of_decide_eq_true (by first | (with_reducible assumption) | assumption)
            have q157 : (ji20) < (x0_1.length : Int) := of_decide_eq_true (by first | (with_reducible assumption) | assumption)
            obtain ⟨ad157, e157, hx157_0, hx157_1, hx157_2⟩ := at_T25 (Kd.R_reads' HO_0.out).2.2 (ji20) p157 q157
            cases e157
            replace p157 := eq_true p157
            replace q157 := eq_true q157
            have p158 : 0 ≤ (x1_1 : Int) := of_decide_eq_true (by first | (with_reducible assumption) | assumption)
            have q158 : x1_1 < (x0_1.length : Int) := of_decide_eq_true (by first | (with_reducible assumption) | assumption)
            obtain ⟨ad158, e158, hx158_0, hx158_1, hx158_2⟩ := at_T25 (Kd.R_reads' HO_0.out).2.2 x1_1 p158 q158
            obtain rfl : ad157 = ad158 := (by injection e158)
            replace p158 := eq_true p158
            replace q158 := eq_true q158
            refine start_ (n := 16) (S := fun w' => w'.cell? (ad157.add (((ji20)).toNat * 3)) = some (.string ((rd_T25 x0_1 (ji20)).f0)) ∧ w'.cell? ⟨(ad157.add (((ji20)).toNat * 3)).block, (ad157.add (((ji20)).toNat * 3)).off + 1, none⟩ = some (.int .u64 ((rd_T25 x0_1 (ji20)).f1)) ∧ w'.cell? ⟨(ad157.add (((ji20)).toNat * 3)).block, (ad157.add (((ji20)).toNat * 3)).off + 2, none⟩ = some (.int .u64 ((rd_T25 x0_1 (ji20)).f2)) ∧ w'.cell? (ad157.add ((x1_1).toNat * 3)) = some (.string ((rd_T25 x0_1 x1_1).f0)) ∧ w'.cell? ⟨(ad157.add ((x1_1).toNat * 3)).block, (ad157.add ((x1_1).toNat * 3)).off + 1, none⟩ = some (.int .u64 ((rd_T25 x0_1 x1_1).f1)) ∧ w'.cell? ⟨(ad157.add ((x1_1).toNat * 3)).block, (ad157.add ((x1_1).toNat * 3)).off + 2, none⟩ = some (.int .u64 ((rd_T25 x0_1 x1_1).f2))) (ds := []) #[false, false, false, false, false, false, false, false, false, false, false, false, false, false, false, false] (by kernel_rfl) rfl rfl ⟨hx157_0, hx157_1, hx157_2, hx158_0, hx158_1, hx158_2⟩ (fun hHeld => ?_); refine with_tabW heap_sink.tab3 heap_sink.bits3 (fun HT_ HW_ => ?_)
            generalize wc.drew = w27 at HO_0 HK HB hx157_0 hx157_1 hx157_2 hx158_0 hx158_1 hx158_2 hHeld ⊢
            refine pure_ (i := 0) (N := some 28) (v := ?_) (a' := ?_) #[true, false, false, false, false, false, false, false, false, false, false, false, false, false, false, false] rfl rfl (any_of HT_.out (by kernel_rfl)) (fun _ _ _ h => h) (Or.inl ⟨by rfl, ?_⟩) ?_ ?_
            rotate_left
            ·
             intro w'
             go_simp
             with_reducible rfl
            rotate_left
            · exact bA
            refine pure_ (i := 1) (N := some 29) (v := ?_) (a' := ?_) #[true, true, false, false, false, false, false, false, false, false, false, false, false, false, false, false] rfl rfl (any_of HT_.out (by kernel_rfl)) (fun _ _ _ h => h) (Or.inl ⟨by rfl, ?_⟩) ?_ ?_
            rotate_left
            ·
             intro w'
             go_simp
             with_reducible rfl
            rotate_left
            · exact bA
            refine pure_ (i := 2) (N := some 30) (v := ?_) (a' := ?_) #[true, true, true, false, false, false, false, false, false, false, false, false, false, false, false, false] rfl rfl (any_of HT_.out (by kernel_rfl)) (fun _ _ _ h => h) (Or.inl ⟨by rfl, ?_⟩) ?_ ?_
            rotate_left
            ·
             intro w'
             go_simp
             with_reducible rfl
            rotate_left
            · exact bA
            refine pure_ (i := 3) (N := some 31) (v := ?_) (a' := ?_) #[true, true, true, true, false, false, false, false, false, false, false, false, false, false, false, false] rfl rfl (any_of HT_.out (by kernel_rfl)) (fun _ _ _ h => h) (Or.inl ⟨by rfl, ?_⟩) ?_ ?_
            rotate_left
            ·
             intro w'
             go_simp
             with_reducible rfl
            rotate_left
            · exact bA
            refine pure_ (i := 4) (N := some 32) (v := ?_) (a' := ?_) #[true, true, true, true, true, false, false, false, false, false, false, false, false, false, false, false] rfl rfl (any_of HT_.out (by kernel_rfl)) (fun _ _ _ h => h) (Or.inl ⟨by rfl, ?_⟩) ?_ ?_
            rotate_left
            ·
             intro w'
             go_simp
             with_reducible rfl
            rotate_left
            · exact bA
            refine pure_ (i := 5) (N := some 33) (v := ?_) (a' := ?_) #[true, true, true, true, true, true, false, false, false, false, false, false, false, false, false, false] rfl rfl (any_of HT_.out (by kernel_rfl)) (fun _ _ _ h => h) (Or.inl ⟨by rfl, ?_⟩) ?_ ?_
            rotate_left
            ·
             intro w'
             go_simp
             with_reducible rfl
            rotate_left
            · exact bA
            refine pure_ (i := 6) (N := some 34) (v := ?_) (a' := ?_) #[true, true, true, true, true, true, true, false, false, false, false, false, false, false, false, false] rfl rfl (any_of HT_.out (by kernel_rfl)) (fun _ _ _ h => h) (Or.inl ⟨by rfl, ?_⟩) ?_ ?_
            rotate_left
            ·
             intro w'
             go_simp
             with_reducible rfl
            rotate_left
            · exact bA
            refine pure_ (i := 7) (N := some 35) (v := ?_) (a' := ?_) #[true, true, true, true, true, true, true, true, false, false, false, false, false, false, false, false] rfl rfl (any_of HT_.out (by kernel_rfl)) (fun _ _ _ h => h) (Or.inl ⟨by rfl, ?_⟩) ?_ ?_
            rotate_left
            ·
             intro w'
             go_simp
             with_reducible rfl
            rotate_left
            · exact bA
            refine pure_ (i := 9) (N := some 37) (v := ?_) (a' := ?_) #[true, true, true, true, true, true, true, true, false, true, false, false, false, false, false, false] rfl rfl (any_of HT_.out (by kernel_rfl)) (fun _ _ _ h => h) (Or.inl ⟨by rfl, ?_⟩) ?_ ?_
            rotate_left
            ·
             intro w'
             go_simp
             with_reducible rfl
            rotate_left
            · exact bA
            refine pure_ (i := 10) (N := some 38) (v := ?_) (a' := ?_) #[true, true, true, true, true, true, true, true, false, true, true, false, false, false, false, false] rfl rfl (any_of HT_.out (by kernel_rfl)) (fun _ _ _ h => h) (Or.inl ⟨by rfl, ?_⟩) ?_ ?_
            rotate_left
            ·
             intro w'
             go_simp
             with_reducible rfl
            rotate_left
            · exact bA
            refine pure_ (i := 11) (N := some 39) (v := ?_) (a' := ?_) #[true, true, true, true, true, true, true, true, false, true, true, true, false, false, false, false] rfl rfl (any_of HT_.out (by kernel_rfl)) (fun _ _ _ h => h) (Or.inl ⟨by rfl, ?_⟩) ?_ ?_
            rotate_left
            ·
             intro w'
             go_simp
             with_reducible rfl
            rotate_left
            · exact bA
            refine take_ (i := 8) (N := some 36) (v := ?_) (a' := ?_) #[true, true, true, true, true, true, true, true, true, true, true, true, false, false, false, false] rfl rfl (take_ofW HT_.out HW_.out (by kernel_rfl)) (fun _ _ _ h => h) (Or.inl ⟨by rfl, ?_⟩) hHeld ?_ ?_
            rotate_left
            ·
             rintro w' ⟨s0, s1, s2, s3, s4, s5⟩
             (try simp only [add_plain] at s0 s1 s2 s3 s4 s5)
             go_simp
             with_reducible rfl
            rotate_left
            · exact bA
            refine take_ (i := 12) (N := some 40) (v := ?_) (a' := ?_) #[true, true, true, true, true, true, true, true, true, true, true, true, true, false, false, false] rfl rfl (take_ofW HT_.out HW_.out (by kernel_rfl)) (fun _ _ _ h => h) (Or.inl ⟨by rfl, ?_⟩) hHeld ?_ ?_
            rotate_left
            ·
             rintro w' ⟨s0, s1, s2, s3, s4, s5⟩
             (try simp only [add_plain] at s0 s1 s2 s3 s4 s5)
             go_simp
             with_reducible rfl
            rotate_left
            · exact bA
            refine one_ (i := 13) (N := some 41) #[true, true, true, true, true, true, true, true, true, true, true, true, true, true, false, false] rfl rfl (one_of HT_.out (by kernel_rfl)) (by decide) (fun K hK => ?_)
            refine goes_ Try.func23 (by kernel_rfl) rfl #[.agg #[.string ((rd_T25 x0_1 (ji20)).f0), .int .u64 ((rd_T25 x0_1 (ji20)).f1), .int .u64 ((rd_T25 x0_1 (ji20)).f2)], .agg #[.string ((rd_T25 x0_1 x1_1).f0), .int .u64 ((rd_T25 x0_1 x1_1).f1), .int .u64 ((rd_T25 x0_1 x1_1).f2)]] (by rfl) rfl rfl (by (try simp only [List.map_toArray, List.map_cons, List.map_nil]); first | done | (simp only [hji20]; rfl) | rfl | (simp only [List.length_drop, List.length_take]; rfl)) ?_
            with_reducible refine (rank_Cmp.calls kj2 ((rd_T25 x0_1 (ji20)).f0) ((rd_T25 x0_1 (ji20)).f1) ((rd_T25 x0_1 (ji20)).f2) ((rd_T25 x0_1 x1_1).f0) ((rd_T25 x0_1 x1_1).f1) ((rd_T25 x0_1 x1_1).f2) t159 _ A25.out).mono ?_
            rintro e w29 ⟨rfl, hb⟩
            have HS0_ := (hb.cell (World.block_lt_of_cell? _ _ (hHeld.1))).trans (hHeld.1)
            have HS1_ := (hb.cell (World.block_lt_of_cell? _ _ (hHeld.2.1))).trans (hHeld.2.1)
            have HS2_ := (hb.cell (World.block_lt_of_cell? _ _ (hHeld.2.2.1))).trans (hHeld.2.2.1)
            have HS3_ := (hb.cell (World.block_lt_of_cell? _ _ (hHeld.2.2.2.1))).trans (hHeld.2.2.2.1)
            have HS4_ := (hb.cell (World.block_lt_of_cell? _ _ (hHeld.2.2.2.2.1))).trans (hHeld.2.2.2.2.1)
            have HS5_ := (hb.cell (World.block_lt_of_cell? _ _ (hHeld.2.2.2.2.2))).trans (hHeld.2.2.2.2.2)
            refine ⟨_, rfl, ?_⟩
            have n0_ := Aside0.mk (Kd.R_below (by (with_reducible repeat (first | apply Kd.R_alloc | apply Kd.R_drewN | apply Kd.R_drew)); exact HO_0.out) hb)
            have n1_ := Aside0.mk (Kept.below (S := (fun k_ => P0_ k_)) (by repeat (first | (with_reducible first | exact HK.out | apply Kept.alloc | apply Kept.drewN | apply Kept.drew) | exact HK.out)) hb)
            have n2_ := Aside0.mk (below_step (bW HB.out) hb)
            clear HO_0 HK HB
            have HO_0 := n0_
            have HK := n1_
            have HB := n2_
            clear n0_ n1_ n2_
            (try clear hb)
            (try clear hb2)
            (try clear hk)
            (try clear hi)
            refine hK.out _ _ ⟨HS0_, HS1_, HS2_, HS3_, HS4_, HS5_⟩ (fun hHeld => ?_)
            clear hK K
            refine norm_ (a' := ?_) ?_ ?_
            rotate_left
            ·
             show Act.put _ (some 41) _ = _
             simp only [Act.put, List.setIfInBounds_toArray, List.set_cons_zero, List.set_cons_succ, i64_w, i32_w]
             rfl
            refine pure_ (i := 14) (N := some 42) (v := ?_) (a' := ?_) #[true, true, true, true, true, true, true, true, true, true, true, true, true, true, true, false] rfl rfl (any_of HT_.out (by kernel_rfl)) (fun _ _ _ h => h) (Or.inl ⟨by rfl, ?_⟩) ?_ ?_
            rotate_left
            ·
             intro w'
             go_simp
             with_reducible rfl
            rotate_left
            · exact bA
            refine pure_ (i := 15) (N := some 43) (v := ?_) (a' := ?_) #[true, true, true, true, true, true, true, true, true, true, true, true, true, true, true, true] rfl rfl (any_of HT_.out (by kernel_rfl)) (fun _ _ _ h => h) (Or.inl ⟨by rfl, ?_⟩) ?_ ?_
            rotate_left
            ·
             intro w'
             go_simp
             with_reducible rfl
            rotate_left
            · exact bA
            refine done_ (done_of HT_.out (by kernel_rfl)) ?_
            try go_wp2
            first | go_end0 | ((try simp only [Exit.inBlock, Exit.then]); refine bodyPost_ret (results_none rfl _ _ _) rfl ?_)
            exact ⟨by first | rfl | (simp [errW_none, errW_some] <;> rfl) | (simp only [← hji20]; first | rfl | (simp [errW_none, errW_some] <;> rfl)) | (simp [*, errW_none, errW_some] <;> rfl), by (with_reducible repeat (first | apply Kd.R_alloc | apply Kd.R_drewN | apply Kd.R_drew)); exact HO_0.out, by repeat (first | (with_reducible first | exact HB.out | apply below_alloc | apply pw_below_drewN | apply below_drew1) | exact HB.out), by repeat (first | (with_reducible first | exact HK.out | apply Kept.alloc | apply Kept.drewN | apply Kept.drew) | exact HK.out)⟩
           ·
            rw [if_neg c26] at H
            have c26b0 : decide (t159 ≤ 0) = false := decide_eq_false c26
            clear c26
            obtain ⟨y162, hy162⟩ : ∃ y_ : List (S25), y_ = (x0_1.set (x1_1 : Int).toNat (⟨(rd_T25 x0_1 (ji20)).f0, (rd_T25 x0_1 (ji20)).f1, (rd_T25 x0_1 (ji20)).f2⟩ : S25)) := ⟨_, rfl⟩
            replace H : (heap_sink.l0 kj2 (y162.set ((ji20) : Int).toNat (⟨(rd_T25 x0_1 x1_1).f0, (rd_T25 x0_1 x1_1).f1, (rd_T25 x0_1 x1_1).f2⟩ : S25)) ji20) = some r := by first | (rw [hy162]; with_reducible exact H) | (have H2_ := (Option.bind_some _ _).symm.trans H; rw [hy162]; with_reducible exact H2_) | (have H2_ := (Option.bind_some _ _).symm.trans H; with_reducible exact H2_) | with_reducible exact H | (rw [hy162]; exact H) | exact H
            have Ny162 := Aside0.mk hy162
            clear hy162
            obtain ⟨y163, hy163⟩ : ∃ y_ : List (S25), y_ = (y162.set ((ji20) : Int).toNat (⟨(rd_T25 x0_1 x1_1).f0, (rd_T25 x0_1 x1_1).f1, (rd_T25 x0_1 x1_1).f2⟩ : S25)) := ⟨_, rfl⟩
            replace H : (heap_sink.l0 kj2 y163 ji20) = some r := by first | (rw [hy163]; with_reducible exact H) | (have H2_ := (Option.bind_some _ _).symm.trans H; rw [hy163]; with_reducible exact H2_) | (have H2_ := (Option.bind_some _ _).symm.trans H; with_reducible exact H2_) | with_reducible exact H | (rw [hy163]; exact H) | exact H
            have Ny163 := Aside0.mk hy163
            clear hy163
            have H' := Aside0.mk H
            clear H
            try go_wp2
            have n0_ := Aside0.mk (Kd.R_drew HO_0.out)
            have n1_ := Aside0.mk (Kept.drew HK.out)
            have n2_ := Aside0.mk (below_drew1 HB.out)
            clear HO_0 HK HB
            have HO_0 := n0_
            have HK := n1_
            have HB := n2_
            clear n0_ n1_ n2_
            obtain ⟨Ao33, co33, eo33⟩ := Kd.R_slice HO_0.out
            (first | subst eo33 | (injection eo33 with f1_ f2_ f3_; have f4_ := f1_.symm; have f5_ := f3_.symm; clear f1_ f2_ f3_; subst f4_; subst f5_))
            have p157 : 0 ≤ ((ji20) : Int) := of_decide_eq_true (by first | (with_reducible assumption) | assumption)
            have q157 : (ji20) < (x0_1.length : Int) := of_decide_eq_true (by first | (with_reducible assumption) | assumption)
            obtain ⟨ad157, e157, hx157_0, hx157_1, hx157_2⟩ := at_T25 (Kd.R_reads' HO_0.out).2.2 (ji20) p157 q157
            cases e157
            replace p157 := eq_true p157
            replace q157 := eq_true q157
            have p158 : 0 ≤ (x1_1 : Int) := of_decide_eq_true (by first | (with_reducible assumption) | assumption)
            have q158 : x1_1 < (x0_1.length : Int) := of_decide_eq_true (by first | (with_reducible assumption) | assumption)
            obtain ⟨ad158, e158, hx158_0, hx158_1, hx158_2⟩ := at_T25 (Kd.R_reads' HO_0.out).2.2 x1_1 p158 q158
            obtain rfl : ad157 = ad158 := (by injection e158)
            replace p158 := eq_true p158
            replace q158 := eq_true q158
            refine start_ (n := 16) (S := fun w' => w'.cell? (ad157.add (((ji20)).toNat * 3)) = some (.string ((rd_T25 x0_1 (ji20)).f0)) ∧ w'.cell? ⟨(ad157.add (((ji20)).toNat * 3)).block, (ad157.add (((ji20)).toNat * 3)).off + 1, none⟩ = some (.int .u64 ((rd_T25 x0_1 (ji20)).f1)) ∧ w'.cell? ⟨(ad157.add (((ji20)).toNat * 3)).block, (ad157.add (((ji20)).toNat * 3)).off + 2, none⟩ = some (.int .u64 ((rd_T25 x0_1 (ji20)).f2)) ∧ w'.cell? (ad157.add ((x1_1).toNat * 3)) = some (.string ((rd_T25 x0_1 x1_1).f0)) ∧ w'.cell? ⟨(ad157.add ((x1_1).toNat * 3)).block, (ad157.add ((x1_1).toNat * 3)).off + 1, none⟩ = some (.int .u64 ((rd_T25 x0_1 x1_1).f1)) ∧ w'.cell? ⟨(ad157.add ((x1_1).toNat * 3)).block, (ad157.add ((x1_1).toNat * 3)).off + 2, none⟩ = some (.int .u64 ((rd_T25 x0_1 x1_1).f2))) (ds := []) #[false, false, false, false, false, false, false, false, false, false, false, false, false, false, false, false] (by kernel_rfl) rfl rfl ⟨hx157_0, hx157_1, hx157_2, hx158_0, hx158_1, hx158_2⟩ (fun hHeld => ?_); refine with_tabW heap_sink.tab3 heap_sink.bits3 (fun HT_ HW_ => ?_)
            generalize wc.drew = w32 at HO_0 HK HB hx157_0 hx157_1 hx157_2 hx158_0 hx158_1 hx158_2 hHeld ⊢
            refine pure_ (i := 0) (N := some 28) (v := ?_) (a' := ?_) #[true, false, false, false, false, false, false, false, false, false, false, false, false, false, false, false] rfl rfl (any_of HT_.out (by kernel_rfl)) (fun _ _ _ h => h) (Or.inl ⟨by rfl, ?_⟩) ?_ ?_
            rotate_left
            ·
             intro w'
             go_simp
             with_reducible rfl
            rotate_left
            · exact bA
            refine pure_ (i := 1) (N := some 29) (v := ?_) (a' := ?_) #[true, true, false, false, false, false, false, false, false, false, false, false, false, false, false, false] rfl rfl (any_of HT_.out (by kernel_rfl)) (fun _ _ _ h => h) (Or.inl ⟨by rfl, ?_⟩) ?_ ?_
            rotate_left
            ·
             intro w'
             go_simp
             with_reducible rfl
            rotate_left
            · exact bA
            refine pure_ (i := 2) (N := some 30) (v := ?_) (a' := ?_) #[true, true, true, false, false, false, false, false, false, false, false, false, false, false, false, false] rfl rfl (any_of HT_.out (by kernel_rfl)) (fun _ _ _ h => h) (Or.inl ⟨by rfl, ?_⟩) ?_ ?_
            rotate_left
            ·
             intro w'
             go_simp
             with_reducible rfl
            rotate_left
            · exact bA
            refine pure_ (i := 3) (N := some 31) (v := ?_) (a' := ?_) #[true, true, true, true, false, false, false, false, false, false, false, false, false, false, false, false] rfl rfl (any_of HT_.out (by kernel_rfl)) (fun _ _ _ h => h) (Or.inl ⟨by rfl, ?_⟩) ?_ ?_
            rotate_left
            ·
             intro w'
             go_simp
             with_reducible rfl
            rotate_left
            · exact bA
            refine pure_ (i := 4) (N := some 32) (v := ?_) (a' := ?_) #[true, true, true, true, true, false, false, false, false, false, false, false, false, false, false, false] rfl rfl (any_of HT_.out (by kernel_rfl)) (fun _ _ _ h => h) (Or.inl ⟨by rfl, ?_⟩) ?_ ?_
            rotate_left
            ·
             intro w'
             go_simp
             with_reducible rfl
            rotate_left
            · exact bA
            refine pure_ (i := 5) (N := some 33) (v := ?_) (a' := ?_) #[true, true, true, true, true, true, false, false, false, false, false, false, false, false, false, false] rfl rfl (any_of HT_.out (by kernel_rfl)) (fun _ _ _ h => h) (Or.inl ⟨by rfl, ?_⟩) ?_ ?_
            rotate_left
            ·
             intro w'
             go_simp
             with_reducible rfl
            rotate_left
            · exact bA
            refine pure_ (i := 6) (N := some 34) (v := ?_) (a' := ?_) #[true, true, true, true, true, true, true, false, false, false, false, false, false, false, false, false] rfl rfl (any_of HT_.out (by kernel_rfl)) (fun _ _ _ h => h) (Or.inl ⟨by rfl, ?_⟩) ?_ ?_
            rotate_left
            ·
             intro w'
             go_simp
             with_reducible rfl
            rotate_left
            · exact bA
            refine pure_ (i := 7) (N := some 35) (v := ?_) (a' := ?_) #[true, true, true, true, true, true, true, true, false, false, false, false, false, false, false, false] rfl rfl (any_of HT_.out (by kernel_rfl)) (fun _ _ _ h => h) (Or.inl ⟨by rfl, ?_⟩) ?_ ?_
            rotate_left
            ·
             intro w'
             go_simp
             with_reducible rfl
            rotate_left
            · exact bA
            refine pure_ (i := 9) (N := some 37) (v := ?_) (a' := ?_) #[true, true, true, true, true, true, true, true, false, true, false, false, false, false, false, false] rfl rfl (any_of HT_.out (by kernel_rfl)) (fun _ _ _ h => h) (Or.inl ⟨by rfl, ?_⟩) ?_ ?_
            rotate_left
            ·
             intro w'
             go_simp
             with_reducible rfl
            rotate_left
            · exact bA
            refine pure_ (i := 10) (N := some 38) (v := ?_) (a' := ?_) #[true, true, true, true, true, true, true, true, false, true, true, false, false, false, false, false] rfl rfl (any_of HT_.out (by kernel_rfl)) (fun _ _ _ h => h) (Or.inl ⟨by rfl, ?_⟩) ?_ ?_
            rotate_left
            ·
             intro w'
             go_simp
             with_reducible rfl
            rotate_left
            · exact bA
            refine pure_ (i := 11) (N := some 39) (v := ?_) (a' := ?_) #[true, true, true, true, true, true, true, true, false, true, true, true, false, false, false, false] rfl rfl (any_of HT_.out (by kernel_rfl)) (fun _ _ _ h => h) (Or.inl ⟨by rfl, ?_⟩) ?_ ?_
            rotate_left
            ·
             intro w'
             go_simp
             with_reducible rfl
            rotate_left
            · exact bA
            refine take_ (i := 8) (N := some 36) (v := ?_) (a' := ?_) #[true, true, true, true, true, true, true, true, true, true, true, true, false, false, false, false] rfl rfl (take_ofW HT_.out HW_.out (by kernel_rfl)) (fun _ _ _ h => h) (Or.inl ⟨by rfl, ?_⟩) hHeld ?_ ?_
            rotate_left
            ·
             rintro w' ⟨s0, s1, s2, s3, s4, s5⟩
             (try simp only [add_plain] at s0 s1 s2 s3 s4 s5)
             go_simp
             with_reducible rfl
            rotate_left
            · exact bA
            refine take_ (i := 12) (N := some 40) (v := ?_) (a' := ?_) #[true, true, true, true, true, true, true, true, true, true, true, true, true, false, false, false] rfl rfl (take_ofW HT_.out HW_.out (by kernel_rfl)) (fun _ _ _ h => h) (Or.inl ⟨by rfl, ?_⟩) hHeld ?_ ?_
            rotate_left
            ·
             rintro w' ⟨s0, s1, s2, s3, s4, s5⟩
             (try simp only [add_plain] at s0 s1 s2 s3 s4 s5)
             go_simp
             with_reducible rfl
            rotate_left
            · exact bA
            refine one_ (i := 13) (N := some 41) #[true, true, true, true, true, true, true, true, true, true, true, true, true, true, false, false] rfl rfl (one_of HT_.out (by kernel_rfl)) (by decide) (fun K hK => ?_)
            refine goes_ Try.func23 (by kernel_rfl) rfl #[.agg #[.string ((rd_T25 x0_1 (ji20)).f0), .int .u64 ((rd_T25 x0_1 (ji20)).f1), .int .u64 ((rd_T25 x0_1 (ji20)).f2)], .agg #[.string ((rd_T25 x0_1 x1_1).f0), .int .u64 ((rd_T25 x0_1 x1_1).f1), .int .u64 ((rd_T25 x0_1 x1_1).f2)]] (by rfl) rfl rfl (by (try simp only [List.map_toArray, List.map_cons, List.map_nil]); first | done | (simp only [hji20]; rfl) | rfl | (simp only [List.length_drop, List.length_take]; rfl)) ?_
            with_reducible refine (rank_Cmp.calls kj2 ((rd_T25 x0_1 (ji20)).f0) ((rd_T25 x0_1 (ji20)).f1) ((rd_T25 x0_1 (ji20)).f2) ((rd_T25 x0_1 x1_1).f0) ((rd_T25 x0_1 x1_1).f1) ((rd_T25 x0_1 x1_1).f2) t159 _ A25.out).mono ?_
            rintro e w34 ⟨rfl, hb⟩
            have HS0_ := (hb.cell (World.block_lt_of_cell? _ _ (hHeld.1))).trans (hHeld.1)
            have HS1_ := (hb.cell (World.block_lt_of_cell? _ _ (hHeld.2.1))).trans (hHeld.2.1)
            have HS2_ := (hb.cell (World.block_lt_of_cell? _ _ (hHeld.2.2.1))).trans (hHeld.2.2.1)
            have HS3_ := (hb.cell (World.block_lt_of_cell? _ _ (hHeld.2.2.2.1))).trans (hHeld.2.2.2.1)
            have HS4_ := (hb.cell (World.block_lt_of_cell? _ _ (hHeld.2.2.2.2.1))).trans (hHeld.2.2.2.2.1)
            have HS5_ := (hb.cell (World.block_lt_of_cell? _ _ (hHeld.2.2.2.2.2))).trans (hHeld.2.2.2.2.2)
            refine ⟨_, rfl, ?_⟩
            have n0_ := Aside0.mk (Kd.R_below (by (with_reducible repeat (first | apply Kd.R_alloc | apply Kd.R_drewN | apply Kd.R_drew)); exact HO_0.out) hb)
            have n1_ := Aside0.mk (Kept.below (S := (fun k_ => P0_ k_)) (by repeat (first | (with_reducible first | exact HK.out | apply Kept.alloc | apply Kept.drewN | apply Kept.drew) | exact HK.out)) hb)
            have n2_ := Aside0.mk (below_step (bW HB.out) hb)
            clear HO_0 HK HB
            have HO_0 := n0_
            have HK := n1_
            have HB := n2_
            clear n0_ n1_ n2_
            (try clear hb)
            (try clear hb2)
            (try clear hk)
            (try clear hi)
            refine hK.out _ _ ⟨HS0_, HS1_, HS2_, HS3_, HS4_, HS5_⟩ (fun hHeld => ?_)
            clear hK K
            refine norm_ (a' := ?_) ?_ ?_
            rotate_left
            ·
             show Act.put _ (some 41) _ = _
             simp only [Act.put, List.setIfInBounds_toArray, List.set_cons_zero, List.set_cons_succ, i64_w, i32_w]
             rfl
            refine pure_ (i := 14) (N := some 42) (v := ?_) (a' := ?_) #[true, true, true, true, true, true, true, true, true, true, true, true, true, true, true, false] rfl rfl (any_of HT_.out (by kernel_rfl)) (fun _ _ _ h => h) (Or.inl ⟨by rfl, ?_⟩) ?_ ?_
            rotate_left
            ·
             intro w'
             go_simp
             with_reducible rfl
            rotate_left
            · exact bA
            refine pure_ (i := 15) (N := some 43) (v := ?_) (a' := ?_) #[true, true, true, true, true, true, true, true, true, true, true, true, true, true, true, true] rfl rfl (any_of HT_.out (by kernel_rfl)) (fun _ _ _ h => h) (Or.inl ⟨by rfl, ?_⟩) ?_ ?_
            rotate_left
            ·
             intro w'
             go_simp
             with_reducible rfl
            rotate_left
            · exact bA
            refine done_ (done_of HT_.out (by kernel_rfl)) ?_
            try go_wp2
            have n0_ := Aside0.mk (Kd.R_drew HO_0.out)
            have n1_ := Aside0.mk (Kept.drew HK.out)
            have n2_ := Aside0.mk (below_drew1 HB.out)
            clear HO_0 HK HB
            have HO_0 := n0_
            have HK := n1_
            have HB := n2_
            clear n0_ n1_ n2_
            have p160 : 0 ≤ ((ji20) : Int) := of_decide_eq_true (by first | (with_reducible assumption) | assumption)
            have q160 : (ji20) < (x0_1.length : Int) := of_decide_eq_true (by first | (with_reducible assumption) | assumption)
            obtain ⟨ad160, e160, hx160_0, hx160_1, hx160_2⟩ := at_T25 (Kd.R_reads' HO_0.out).2.2 (ji20) p160 q160
            obtain rfl : ad157 = ad160 := (by injection e160)
            replace p160 := eq_true p160
            replace q160 := eq_true q160
            have p161 : 0 ≤ (x1_1 : Int) := of_decide_eq_true (by first | (with_reducible assumption) | assumption)
            have q161 : x1_1 < (x0_1.length : Int) := of_decide_eq_true (by first | (with_reducible assumption) | assumption)
            obtain ⟨ad161, e161, hx161_0, hx161_1, hx161_2⟩ := at_T25 (Kd.R_reads' HO_0.out).2.2 x1_1 p161 q161
            obtain rfl : ad157 = ad161 := (by injection e161)
            replace p161 := eq_true p161
            replace q161 := eq_true q161
            have p30 : 0 ≤ (x1_1 : Int) := of_decide_eq_true (by first | (with_reducible assumption) | assumption)
            have q30 : (x1_1 : Int) < ((x0_1.length : Int) : Int) := of_decide_eq_true (by first | (with_reducible assumption) | assumption)
            obtain ⟨go30, co30, eo30, gb30, gl30, cl30, HG30⟩ := Kd.R_form HO_0.out (by omega)
            (first | cases eo30 | (injection eo30 with ea_ en_ ec_; (first | subst ea_ | (injection ea_ with ea_; subst ea_)); subst ec_; clear en_))
            have GB30 := Aside0.mk gb30
            have GG30 := Aside0.mk HG30
            clear gb30 gl30 HG30
            have HMgo30 := Aside0.mk (show (P0_ go30 ∨ w.heap.size ≤ go30) from (HO_0.out.1 _ rfl))
            (first | simp only [add_plain] at hx157_0 | skip)
            (first | simp only [add_plain] at hx157_1 | skip)
            (first | simp only [add_plain] at hx157_2 | skip)
            (first | simp only [add_plain] at hx158_0 | skip)
            (first | simp only [add_plain] at hx158_1 | skip)
            (first | simp only [add_plain] at hx158_2 | skip)
            (first | simp only [add_plain] at hx160_0 | skip)
            (first | simp only [add_plain] at hx160_1 | skip)
            (first | simp only [add_plain] at hx160_2 | skip)
            (first | simp only [add_plain] at hx161_0 | skip)
            (first | simp only [add_plain] at hx161_1 | skip)
            (first | simp only [add_plain] at hx161_2 | skip)
            obtain ⟨ce30, hcl30, hM30, hcc30, hfr30⟩ := Kd.R_elem HO_0.out z25 (x1_1 : Int) p30 q30
            obtain rfl := k25_openM hM30
            have hx30_0 : World.cell? _ ⟨go30, (x1_1 : Int).toNat * 3, none⟩ = some (.string ((rd_T25 x0_1 x1_1).f0)) := hcc30 0 _ rfl
            have hx30_1 : World.cell? _ ⟨go30, (x1_1 : Int).toNat * 3 + 1, none⟩ = some (.int .u64 ((rd_T25 x0_1 x1_1).f1)) := hcc30 1 _ rfl
            have hx30_2 : World.cell? _ ⟨go30, (x1_1 : Int).toNat * 3 + 2, none⟩ = some (.int .u64 ((rd_T25 x0_1 x1_1).f2)) := hcc30 2 _ rfl
            have hf30_0 : World.frozen? _ ⟨go30, (x1_1 : Int).toNat * 3, none⟩ = false := hfr30 0
            have hf30_1 : World.frozen? _ ⟨go30, (x1_1 : Int).toNat * 3 + 1, none⟩ = false := hfr30 1
            have hf30_2 : World.frozen? _ ⟨go30, (x1_1 : Int).toNat * 3 + 2, none⟩ = false := hfr30 2
            clear hcl30 hcc30 hfr30 hM30
            replace p30 := eq_true p30
            replace q30 := eq_true q30
            obtain ⟨ce36, hcl36, hM36, hcc36, hfr36⟩ := Kd.R_elem HO_0.out z25 (x1_1 : Int) (of_decide_eq_true (by first | (with_reducible assumption) | assumption)) (by have h_ : (x1_1 : Int) < ((x0_1.length : Int) : Int) := of_decide_eq_true (by first | (with_reducible assumption) | assumption); first | exact h_ | (have e_ := (Kd.R_reads' HO_0.out).1; omega) | simpa using h_)
            obtain rfl := k25_openM hM36
            have HP36 := (Kd.R_seg HO_0.out (x1_1 : Int) (of_decide_eq_true (by first | (with_reducible assumption) | assumption)) (by have h_ : (x1_1 : Int) < ((x0_1.length : Int) : Int) := of_decide_eq_true (by first | (with_reducible assumption) | assumption); first | exact h_ | (have e_ := (Kd.R_reads' HO_0.out).1; omega) | simpa using h_) (seg := [.string ((rd_T25 x0_1 (ji20)).f0), .int .u64 ((rd_T25 x0_1 (ji20)).f1), .int .u64 ((rd_T25 x0_1 (ji20)).f2)]) (j := 0) hcl36 hcc36 (show 3 ≤ 3 from by decide) (x' := (⟨(rd_T25 x0_1 (ji20)).f0, (rd_T25 x0_1 (ji20)).f1, (rd_T25 x0_1 (ji20)).f2⟩ : S25)) (k25_mkM _ _ _ (⟨(rd_T25 x0_1 (ji20)).f0, (rd_T25 x0_1 (ji20)).f1, (rd_T25 x0_1 (ji20)).f2⟩ : S25) ) (fun _ hk => hk)).1
            rw [← Ny162.out] at HP36
            have HQ36 := Aside0.mk HP36
            clear hcl36 hcc36 hfr36 hM36 HP36
            have p31 : 0 ≤ ((ji20) : Int) := of_decide_eq_true (by first | (with_reducible assumption) | assumption)
            have q31 : ((ji20) : Int) < ((x0_1.length : Int) : Int) := of_decide_eq_true (by first | (with_reducible assumption) | assumption)
            obtain ⟨cy31, _, hMy31, hccy31, hfry31⟩ := Kd.R_elem HO_0.out z25 ((ji20) : Int) p31 q31
            obtain rfl := k25_openM hMy31
            have hz31_0 : World.cell? _ ⟨go30, ((ji20) : Int).toNat * 3, none⟩ = some _ := hccy31 0 _ rfl
            have hg31_0 : World.frozen? _ ⟨go30, ((ji20) : Int).toNat * 3, none⟩ = false := hfry31 0
            obtain ⟨vy31_0_0_0, hy31_0_0_0⟩ := cell?_setCell_some (p := ⟨go30, (x1_1 : Int).toNat * 3, none⟩) (x := .string ((rd_T25 x0_1 (ji20)).f0)) hz31_0
            obtain ⟨vy31_0_01_0, hy31_0_01_0⟩ := cell?_setCell_some (p := ⟨go30, (x1_1 : Int).toNat * 3, none⟩) (x := .string ((rd_T25 x0_1 (ji20)).f0)) hz31_0
            obtain ⟨vy31_0_01_1, hy31_0_01_1⟩ := cell?_setCell_some (p := ⟨go30, (x1_1 : Int).toNat * 3 + 1, none⟩) (x := .int .u64 ((rd_T25 x0_1 (ji20)).f1)) hy31_0_01_0
            obtain ⟨vy31_0_02_0, hy31_0_02_0⟩ := cell?_setCell_some (p := ⟨go30, (x1_1 : Int).toNat * 3, none⟩) (x := .string ((rd_T25 x0_1 (ji20)).f0)) hz31_0
            obtain ⟨vy31_0_02_2, hy31_0_02_2⟩ := cell?_setCell_some (p := ⟨go30, (x1_1 : Int).toNat * 3 + 2, none⟩) (x := .int .u64 ((rd_T25 x0_1 (ji20)).f2)) hy31_0_02_0
            obtain ⟨vy31_0_012_0, hy31_0_012_0⟩ := cell?_setCell_some (p := ⟨go30, (x1_1 : Int).toNat * 3, none⟩) (x := .string ((rd_T25 x0_1 (ji20)).f0)) hz31_0
            obtain ⟨vy31_0_012_1, hy31_0_012_1⟩ := cell?_setCell_some (p := ⟨go30, (x1_1 : Int).toNat * 3 + 1, none⟩) (x := .int .u64 ((rd_T25 x0_1 (ji20)).f1)) hy31_0_012_0
            obtain ⟨vy31_0_012_2, hy31_0_012_2⟩ := cell?_setCell_some (p := ⟨go30, (x1_1 : Int).toNat * 3 + 2, none⟩) (x := .int .u64 ((rd_T25 x0_1 (ji20)).f2)) hy31_0_012_1
            have hz31_1 : World.cell? _ ⟨go30, ((ji20) : Int).toNat * 3 + 1, none⟩ = some _ := hccy31 1 _ rfl
            have hg31_1 : World.frozen? _ ⟨go30, ((ji20) : Int).toNat * 3 + 1, none⟩ = false := hfry31 1
            obtain ⟨vy31_1_1_1, hy31_1_1_1⟩ := cell?_setCell_some (p := ⟨go30, (x1_1 : Int).toNat * 3 + 1, none⟩) (x := .int .u64 ((rd_T25 x0_1 (ji20)).f1)) hz31_1
            obtain ⟨vy31_1_01_0, hy31_1_01_0⟩ := cell?_setCell_some (p := ⟨go30, (x1_1 : Int).toNat * 3, none⟩) (x := .string ((rd_T25 x0_1 (ji20)).f0)) hz31_1
            obtain ⟨vy31_1_01_1, hy31_1_01_1⟩ := cell?_setCell_some (p := ⟨go30, (x1_1 : Int).toNat * 3 + 1, none⟩) (x := .int .u64 ((rd_T25 x0_1 (ji20)).f1)) hy31_1_01_0
            obtain ⟨vy31_1_12_1, hy31_1_12_1⟩ := cell?_setCell_some (p := ⟨go30, (x1_1 : Int).toNat * 3 + 1, none⟩) (x := .int .u64 ((rd_T25 x0_1 (ji20)).f1)) hz31_1
            obtain ⟨vy31_1_12_2, hy31_1_12_2⟩ := cell?_setCell_some (p := ⟨go30, (x1_1 : Int).toNat * 3 + 2, none⟩) (x := .int .u64 ((rd_T25 x0_1 (ji20)).f2)) hy31_1_12_1
            obtain ⟨vy31_1_012_0, hy31_1_012_0⟩ := cell?_setCell_some (p := ⟨go30, (x1_1 : Int).toNat * 3, none⟩) (x := .string ((rd_T25 x0_1 (ji20)).f0)) hz31_1
            obtain ⟨vy31_1_012_1, hy31_1_012_1⟩ := cell?_setCell_some (p := ⟨go30, (x1_1 : Int).toNat * 3 + 1, none⟩) (x := .int .u64 ((rd_T25 x0_1 (ji20)).f1)) hy31_1_012_0
            obtain ⟨vy31_1_012_2, hy31_1_012_2⟩ := cell?_setCell_some (p := ⟨go30, (x1_1 : Int).toNat * 3 + 2, none⟩) (x := .int .u64 ((rd_T25 x0_1 (ji20)).f2)) hy31_1_012_1
            have hz31_2 : World.cell? _ ⟨go30, ((ji20) : Int).toNat * 3 + 2, none⟩ = some _ := hccy31 2 _ rfl
            have hg31_2 : World.frozen? _ ⟨go30, ((ji20) : Int).toNat * 3 + 2, none⟩ = false := hfry31 2
            obtain ⟨vy31_2_2_2, hy31_2_2_2⟩ := cell?_setCell_some (p := ⟨go30, (x1_1 : Int).toNat * 3 + 2, none⟩) (x := .int .u64 ((rd_T25 x0_1 (ji20)).f2)) hz31_2
            obtain ⟨vy31_2_02_0, hy31_2_02_0⟩ := cell?_setCell_some (p := ⟨go30, (x1_1 : Int).toNat * 3, none⟩) (x := .string ((rd_T25 x0_1 (ji20)).f0)) hz31_2
            obtain ⟨vy31_2_02_2, hy31_2_02_2⟩ := cell?_setCell_some (p := ⟨go30, (x1_1 : Int).toNat * 3 + 2, none⟩) (x := .int .u64 ((rd_T25 x0_1 (ji20)).f2)) hy31_2_02_0
            obtain ⟨vy31_2_12_1, hy31_2_12_1⟩ := cell?_setCell_some (p := ⟨go30, (x1_1 : Int).toNat * 3 + 1, none⟩) (x := .int .u64 ((rd_T25 x0_1 (ji20)).f1)) hz31_2
            obtain ⟨vy31_2_12_2, hy31_2_12_2⟩ := cell?_setCell_some (p := ⟨go30, (x1_1 : Int).toNat * 3 + 2, none⟩) (x := .int .u64 ((rd_T25 x0_1 (ji20)).f2)) hy31_2_12_1
            obtain ⟨vy31_2_012_0, hy31_2_012_0⟩ := cell?_setCell_some (p := ⟨go30, (x1_1 : Int).toNat * 3, none⟩) (x := .string ((rd_T25 x0_1 (ji20)).f0)) hz31_2
            obtain ⟨vy31_2_012_1, hy31_2_012_1⟩ := cell?_setCell_some (p := ⟨go30, (x1_1 : Int).toNat * 3 + 1, none⟩) (x := .int .u64 ((rd_T25 x0_1 (ji20)).f1)) hy31_2_012_0
            obtain ⟨vy31_2_012_2, hy31_2_012_2⟩ := cell?_setCell_some (p := ⟨go30, (x1_1 : Int).toNat * 3 + 2, none⟩) (x := .int .u64 ((rd_T25 x0_1 (ji20)).f2)) hy31_2_012_1
            clear hccy31 hfry31 hMy31
            obtain ⟨ce31, hcl31, hM31, hcc31, hfr31⟩ := Kd.R_elem HQ36.out z25 ((ji20) : Int) p31 q31
            obtain rfl := k25_openM hM31
            have hx31_0 : World.cell? _ ⟨go30, ((ji20) : Int).toNat * 3, none⟩ = some (.string ((rd_T25 y162 (ji20)).f0)) := hcc31 0 _ rfl
            have hx31_1 : World.cell? _ ⟨go30, ((ji20) : Int).toNat * 3 + 1, none⟩ = some (.int .u64 ((rd_T25 y162 (ji20)).f1)) := hcc31 1 _ rfl
            have hx31_2 : World.cell? _ ⟨go30, ((ji20) : Int).toNat * 3 + 2, none⟩ = some (.int .u64 ((rd_T25 y162 (ji20)).f2)) := hcc31 2 _ rfl
            have hf31_0 : World.frozen? _ ⟨go30, ((ji20) : Int).toNat * 3, none⟩ = false := hfr31 0
            have hf31_1 : World.frozen? _ ⟨go30, ((ji20) : Int).toNat * 3 + 1, none⟩ = false := hfr31 1
            have hf31_2 : World.frozen? _ ⟨go30, ((ji20) : Int).toNat * 3 + 2, none⟩ = false := hfr31 2
            clear hcl31 hcc31 hfr31 hM31
            replace p31 := eq_true p31
            replace q31 := eq_true q31
            obtain ⟨ce37, hcl37, hM37, hcc37, hfr37⟩ := Kd.R_elem HQ36.out z25 ((ji20) : Int) (of_decide_eq_true (by first | (with_reducible assumption) | assumption)) (by have h_ : ((ji20) : Int) < ((x0_1.length : Int) : Int) := of_decide_eq_true (by first | (with_reducible assumption) | assumption); first | exact h_ | (have e_ := (Kd.R_reads' HO_0.out).1; omega) | simpa using h_)
            obtain rfl := k25_openM hM37
            have HP37 := (Kd.R_seg HQ36.out ((ji20) : Int) (of_decide_eq_true (by first | (with_reducible assumption) | assumption)) (by have h_ : ((ji20) : Int) < ((x0_1.length : Int) : Int) := of_decide_eq_true (by first | (with_reducible assumption) | assumption); first | exact h_ | (have e_ := (Kd.R_reads' HO_0.out).1; omega) | simpa using h_) (seg := [.string ((rd_T25 x0_1 x1_1).f0), .int .u64 ((rd_T25 x0_1 x1_1).f1), .int .u64 ((rd_T25 x0_1 x1_1).f2)]) (j := 0) hcl37 hcc37 (show 3 ≤ 3 from by decide) (x' := (⟨(rd_T25 x0_1 x1_1).f0, (rd_T25 x0_1 x1_1).f1, (rd_T25 x0_1 x1_1).f2⟩ : S25)) (k25_mkM _ _ _ (⟨(rd_T25 x0_1 x1_1).f0, (rd_T25 x0_1 x1_1).f1, (rd_T25 x0_1 x1_1).f2⟩ : S25) ) (fun _ hk => hk)).1
            rw [← Ny163.out] at HP37
            have HQ37 := Aside0.mk HP37
            clear hcl37 hcc37 hfr37 hM37 HP37
            refine start_ (n := 16) (S := fun w' => w'.cell? ⟨go30, ((ji20)).toNat * 3, none⟩ = some (.string ((rd_T25 x0_1 (ji20)).f0)) ∧ w'.cell? ⟨go30, ((ji20)).toNat * 3 + 1, none⟩ = some (.int .u64 ((rd_T25 x0_1 (ji20)).f1)) ∧ w'.cell? ⟨go30, ((ji20)).toNat * 3 + 2, none⟩ = some (.int .u64 ((rd_T25 x0_1 (ji20)).f2)) ∧ w'.cell? ⟨go30, ((x1_1).toNat * 3), none⟩ = some (.string ((rd_T25 x0_1 x1_1).f0)) ∧ w'.cell? ⟨go30, ((x1_1).toNat * 3) + 1, none⟩ = some (.int .u64 ((rd_T25 x0_1 x1_1).f1)) ∧ w'.cell? ⟨go30, ((x1_1).toNat * 3) + 2, none⟩ = some (.int .u64 ((rd_T25 x0_1 x1_1).f2))) (ds := [13, 15]) #[false, false, false, false, false, false, false, false, false, false, false, false, false, false, false, false] (by kernel_rfl) rfl rfl ⟨hx160_0, hx160_1, hx160_2, hx161_0, hx161_1, hx161_2⟩ (fun hHeld => ?_); refine with_tabW heap_sink.tab4 heap_sink.bits4 (fun HT_ HW_ => ?_)
            generalize w34.drew = w35 at HO_0 HK HB GG30 HQ36 HQ37 hf30_0 hf30_1 hf30_2 hf31_0 hf31_1 hf31_2 hx157_0 hx157_1 hx157_2 hx158_0 hx158_1 hx158_2 hx160_0 hx160_1 hx160_2 hx161_0 hx161_1 hx161_2 hx30_0 hx30_1 hx30_2 hx31_0 hx31_1 hx31_2 hHeld hz31_0 hg31_0 hy31_0_0_0 hy31_0_01_0 hy31_0_01_1 hy31_0_02_0 hy31_0_02_2 hy31_0_012_0 hy31_0_012_1 hy31_0_012_2 hz31_1 hg31_1 hy31_1_1_1 hy31_1_01_0 hy31_1_01_1 hy31_1_12_1 hy31_1_12_2 hy31_1_012_0 hy31_1_012_1 hy31_1_012_2 hz31_2 hg31_2 hy31_2_2_2 hy31_2_02_0 hy31_2_02_2 hy31_2_12_1 hy31_2_12_2 hy31_2_012_0 hy31_2_012_1 hy31_2_012_2 ⊢
            refine pure_ (i := 0) (N := some 44) (v := ?_) (a' := ?_) #[true, false, false, false, false, false, false, false, false, false, false, false, false, false, false, false] rfl rfl (any_of HT_.out (by kernel_rfl)) (fun _ _ _ h => h) (Or.inl ⟨by rfl, ?_⟩) ?_ ?_
            rotate_left
            ·
             intro w'
             go_simp
             with_reducible rfl
            rotate_left
            · exact bA
            refine pure_ (i := 1) (N := some 45) (v := ?_) (a' := ?_) #[true, true, false, false, false, false, false, false, false, false, false, false, false, false, false, false] rfl rfl (any_of HT_.out (by kernel_rfl)) (fun _ _ _ h => h) (Or.inl ⟨by rfl, ?_⟩) ?_ ?_
            rotate_left
            ·
             intro w'
             go_simp
             with_reducible rfl
            rotate_left
            · exact bA
            refine pure_ (i := 2) (N := some 46) (v := ?_) (a' := ?_) #[true, true, true, false, false, false, false, false, false, false, false, false, false, false, false, false] rfl rfl (any_of HT_.out (by kernel_rfl)) (fun _ _ _ h => h) (Or.inl ⟨by rfl, ?_⟩) ?_ ?_
            rotate_left
            ·
             intro w'
             go_simp
             with_reducible rfl
            rotate_left
            · exact bA
            refine pure_ (i := 3) (N := some 47) (v := ?_) (a' := ?_) #[true, true, true, true, false, false, false, false, false, false, false, false, false, false, false, false] rfl rfl (any_of HT_.out (by kernel_rfl)) (fun _ _ _ h => h) (Or.inl ⟨by rfl, ?_⟩) ?_ ?_
            rotate_left
            ·
             intro w'
             go_simp
             with_reducible rfl
            rotate_left
            · exact bA
            refine pure_ (i := 4) (N := some 48) (v := ?_) (a' := ?_) #[true, true, true, true, true, false, false, false, false, false, false, false, false, false, false, false] rfl rfl (any_of HT_.out (by kernel_rfl)) (fun _ _ _ h => h) (Or.inl ⟨by rfl, ?_⟩) ?_ ?_
            rotate_left
            ·
             intro w'
             go_simp
             with_reducible rfl
            rotate_left
            · exact bA
            refine pure_ (i := 5) (N := some 49) (v := ?_) (a' := ?_) #[true, true, true, true, true, true, false, false, false, false, false, false, false, false, false, false] rfl rfl (any_of HT_.out (by kernel_rfl)) (fun _ _ _ h => h) (Or.inl ⟨by rfl, ?_⟩) ?_ ?_
            rotate_left
            ·
             intro w'
             go_simp
             with_reducible rfl
            rotate_left
            · exact bA
            refine pure_ (i := 6) (N := some 50) (v := ?_) (a' := ?_) #[true, true, true, true, true, true, true, false, false, false, false, false, false, false, false, false] rfl rfl (any_of HT_.out (by kernel_rfl)) (fun _ _ _ h => h) (Or.inl ⟨by rfl, ?_⟩) ?_ ?_
            rotate_left
            ·
             intro w'
             go_simp
             with_reducible rfl
            rotate_left
            · exact bA
            refine pure_ (i := 8) (N := some 52) (v := ?_) (a' := ?_) #[true, true, true, true, true, true, true, false, true, false, false, false, false, false, false, false] rfl rfl (any_of HT_.out (by kernel_rfl)) (fun _ _ _ h => h) (Or.inl ⟨by rfl, ?_⟩) ?_ ?_
            rotate_left
            ·
             intro w'
             go_simp
             with_reducible rfl
            rotate_left
            · exact bA
            refine pure_ (i := 9) (N := some 53) (v := ?_) (a' := ?_) #[true, true, true, true, true, true, true, false, true, true, false, false, false, false, false, false] rfl rfl (any_of HT_.out (by kernel_rfl)) (fun _ _ _ h => h) (Or.inl ⟨by rfl, ?_⟩) ?_ ?_
            rotate_left
            ·
             intro w'
             go_simp
             with_reducible rfl
            rotate_left
            · exact bA
            refine pure_ (i := 10) (N := some 54) (v := ?_) (a' := ?_) #[true, true, true, true, true, true, true, false, true, true, true, false, false, false, false, false] rfl rfl (any_of HT_.out (by kernel_rfl)) (fun _ _ _ h => h) (Or.inl ⟨by rfl, ?_⟩) ?_ ?_
            rotate_left
            ·
             intro w'
             go_simp
             with_reducible rfl
            rotate_left
            · exact bA
            refine take_ (i := 7) (N := some 51) (v := ?_) (a' := ?_) #[true, true, true, true, true, true, true, true, true, true, true, false, false, false, false, false] rfl rfl (take_ofW HT_.out HW_.out (by kernel_rfl)) (fun _ _ _ h => h) (Or.inl ⟨by rfl, ?_⟩) hHeld ?_ ?_
            rotate_left
            ·
             rintro w' ⟨s0, s1, s2, s3, s4, s5⟩
             (try simp only [add_plain] at s0 s1 s2 s3 s4 s5)
             go_simp
             with_reducible rfl
            rotate_left
            · exact bA
            refine take_ (i := 11) (N := some 55) (v := ?_) (a' := ?_) #[true, true, true, true, true, true, true, true, true, true, true, true, false, false, false, false] rfl rfl (take_ofW HT_.out HW_.out (by kernel_rfl)) (fun _ _ _ h => h) (Or.inl ⟨by rfl, ?_⟩) hHeld ?_ ?_
            rotate_left
            ·
             rintro w' ⟨s0, s1, s2, s3, s4, s5⟩
             (try simp only [add_plain] at s0 s1 s2 s3 s4 s5)
             go_simp
             with_reducible rfl
            rotate_left
            · exact bA
            refine pure_ (i := 12) (N := some 56) (v := ?_) (a' := ?_) #[true, true, true, true, true, true, true, true, true, true, true, true, true, false, false, false] rfl rfl (any_of HT_.out (by kernel_rfl)) (fun _ _ _ h => h) (Or.inl ⟨by rfl, ?_⟩) ?_ ?_
            rotate_left
            ·
             intro w'
             go_simp
             with_reducible rfl
            rotate_left
            · exact bA
            refine last_ (i := 13) (N := none) #[true, true, true, true, true, true, true, true, true, true, true, true, true, true, false, false] rfl rfl (one_of HT_.out (by kernel_rfl)) (by decide) (fun K hK => ?_)
            refine skip_ (w1 := ?_) (by rfl) rfl ?_ ?_
            rotate_left
            ·
             go_simp
             rfl
            refine hK.out _ _ ?_
            clear hK K
            refine pure_ (i := 14) (N := some 57) (v := ?_) (a' := ?_) #[true, true, true, true, true, true, true, true, true, true, true, true, true, true, true, false] rfl rfl (any_of HT_.out (by kernel_rfl)) (fun _ _ _ h => h) (Or.inl ⟨by rfl, ?_⟩) ?_ ?_
            rotate_left
            ·
             intro w'
             go_simp
             with_reducible rfl
            rotate_left
            · exact bA
            refine last_ (i := 15) (N := none) #[true, true, true, true, true, true, true, true, true, true, true, true, true, true, true, true] rfl rfl (one_of HT_.out (by kernel_rfl)) (by decide) (fun K hK => ?_)
            refine skip_ (w1 := ?_) (by rfl) rfl ?_ ?_
            rotate_left
            ·
             go_simp
             rfl
            refine hK.out _ _ ?_
            clear hK K
            refine done_ (done_of HT_.out (by kernel_rfl)) ?_
            try go_wp2
            go_roundg kj2
            case measure => have := HK1.out; have := HJ2.out; omega
            case rel => exact ⟨(y163), (ji20), (by first | rfl | (simp; done) | (simp only [← hji20] <;> (first | rfl | simp)) | (simp [*]; done)), H', ⟨by have := HK1.out; have := HJ2.out; omega⟩, ⟨by (with_reducible repeat (first | apply Kd.R_alloc | apply Kd.R_drewN | apply Kd.R_drew)); exact HQ37.out⟩, ⟨by repeat (first | (with_reducible first | exact HK.out | apply Kept.alloc | apply Kept.drewN | apply Kept.drew | refine Kept.setCell ?_ HMgo30.out _ | refine Kept.setCell ?_ HMgo30.out _ | refine Kept.setCell ?_ HMgo30.out _ | refine Kept.setCell ?_ HMgo30.out _ | refine Kept.setCell ?_ HMgo30.out _ | refine Kept.setCell ?_ HMgo30.out _) | exact HK.out)⟩, ⟨by repeat (first | (with_reducible first | exact HB.out | apply below_alloc | apply pw_below_drewN | apply below_drew1 | refine below_set ?_ GB30.out | refine below_set ?_ GB30.out | refine below_set ?_ GB30.out | refine below_set ?_ GB30.out | refine below_set ?_ GB30.out | refine below_set ?_ GB30.out) | exact HB.out)⟩⟩
          ·
           rw [if_neg c24] at H
           exact absurd H (by simp)
         ·
          rw [if_neg c23] at H
          exact absurd H (by simp)
        ·
         rw [if_neg c22] at H
         exact absurd H (by simp)
       ·
        rw [if_neg c21] at H
        exact absurd H (by simp)
     ·
      replace c16 := Bool.eq_false_iff.mpr c16
      subst c16
      have H1 : (if (wrap64 ((wrap64 (2 * x1_1)) + 1)) ≥ (x0_1.length : Int) then (some x0_1) else (if 0 ≤ (wrap64 ((wrap64 (2 * x1_1)) + 1)) then (if (wrap64 ((wrap64 (2 * x1_1)) + 1)) < (x0_1.length : Int) then (if 0 ≤ x1_1 then (if x1_1 < (x0_1.length : Int) then ((rank_Cmp.f kj2 ((rd_T25 x0_1 (wrap64 ((wrap64 (2 * x1_1)) + 1))).f0) ((rd_T25 x0_1 (wrap64 ((wrap64 (2 * x1_1)) + 1))).f1) ((rd_T25 x0_1 (wrap64 ((wrap64 (2 * x1_1)) + 1))).f2) ((rd_T25 x0_1 x1_1).f0) ((rd_T25 x0_1 x1_1).f1) ((rd_T25 x0_1 x1_1).f2)).bind fun t166 => (if t166 ≤ 0 then (some x0_1) else (heap_sink.l0 kj2 ((x0_1.set (x1_1 : Int).toNat (⟨(rd_T25 x0_1 (wrap64 ((wrap64 (2 * x1_1)) + 1))).f0, (rd_T25 x0_1 (wrap64 ((wrap64 (2 * x1_1)) + 1))).f1, (rd_T25 x0_1 (wrap64 ((wrap64 (2 * x1_1)) + 1))).f2⟩ : S25)).set ((wrap64 ((wrap64 (2 * x1_1)) + 1)) : Int).toNat (⟨(rd_T25 x0_1 x1_1).f0, (rd_T25 x0_1 x1_1).f1, (rd_T25 x0_1 x1_1).f2⟩ : S25)) (wrap64 ((wrap64 (2 * x1_1)) + 1))))) else (none)) else (none)) else (none)) else (none))) = some r := by rw [if_neg (show ¬ (false = true) by decide)] at H; exact H
      clear H
      have H := H1
      clear H1
      by_cases c38 : (wrap64 ((wrap64 (2 * x1_1)) + 1)) ≥ (x0_1.length : Int)
      ·
       rw [if_pos c38] at H
       have c38b0 : decide ((x0_1.length : Int) ≤ (wrap64 ((wrap64 (2 * x1_1)) + 1))) = true := decide_eq_true c38
       clear c38
       obtain rfl := Option.some.inj H
       try go_wp2
       have n0_ := Aside0.mk (Kd.R_drew HO_0.out)
       have n1_ := Aside0.mk (Kept.drew HK.out)
       have n2_ := Aside0.mk (below_drew1 HB.out)
       clear HO_0 HK HB
       have HO_0 := n0_
       have HK := n1_
       have HB := n2_
       clear n0_ n1_ n2_
       obtain ⟨Ao40, co40, eo40⟩ := Kd.R_slice HO_0.out
       (first | subst eo40 | (injection eo40 with f1_ f2_ f3_; have f4_ := f1_.symm; have f5_ := f3_.symm; clear f1_ f2_ f3_; subst f4_; subst f5_))
       refine start_ (n := 16) (S := fun w' => True) (ds := []) #[false, false, false, false, false, false, false, false, false, false, false, false, false, false, false, false] (by kernel_rfl) rfl rfl trivial (fun hHeld => ?_); refine with_tabW heap_sink.tab3 heap_sink.bits3 (fun HT_ HW_ => ?_)
       generalize wc.drew = w39 at HO_0 HK HB hHeld ⊢
       refine pure_ (i := 0) (N := some 28) (v := ?_) (a' := ?_) #[true, false, false, false, false, false, false, false, false, false, false, false, false, false, false, false] rfl rfl (any_of HT_.out (by kernel_rfl)) (fun _ _ _ h => h) (Or.inl ⟨by rfl, ?_⟩) ?_ ?_
       rotate_left
       ·
        intro w'
        go_simp
        with_reducible rfl
       rotate_left
       · exact bA
       refine pure_ (i := 1) (N := some 29) (v := ?_) (a' := ?_) #[true, true, false, false, false, false, false, false, false, false, false, false, false, false, false, false] rfl rfl (any_of HT_.out (by kernel_rfl)) (fun _ _ _ h => h) (Or.inl ⟨by rfl, ?_⟩) ?_ ?_
       rotate_left
       ·
        intro w'
        go_simp
        with_reducible rfl
       rotate_left
       · exact bA
       refine pure_ (i := 2) (N := some 30) (v := ?_) (a' := ?_) #[true, true, true, false, false, false, false, false, false, false, false, false, false, false, false, false] rfl rfl (any_of HT_.out (by kernel_rfl)) (fun _ _ _ h => h) (Or.inl ⟨by rfl, ?_⟩) ?_ ?_
       rotate_left
       ·
        intro w'
        go_simp
        with_reducible rfl
       rotate_left
       · exact bA
       refine pure_ (i := 3) (N := some 31) (v := ?_) (a' := ?_) #[true, true, true, true, false, false, false, false, false, false, false, false, false, false, false, false] rfl rfl (any_of HT_.out (by kernel_rfl)) (fun _ _ _ h => h) (Or.inl ⟨by rfl, ?_⟩) ?_ ?_
       rotate_left
       ·
        intro w'
        go_simp
        with_reducible rfl
       rotate_left
       · exact bA
       refine pure_ (i := 4) (N := some 32) (v := ?_) (a' := ?_) #[true, true, true, true, true, false, false, false, false, false, false, false, false, false, false, false] rfl rfl (any_of HT_.out (by kernel_rfl)) (fun _ _ _ h => h) (Or.inl ⟨by rfl, ?_⟩) ?_ ?_
       rotate_left
       ·
        intro w'
        go_simp
        with_reducible rfl
       rotate_left
       · exact bA
       refine pure_ (i := 5) (N := some 33) (v := undef) (a' := ?_) #[true, true, true, true, true, true, false, false, false, false, false, false, false, false, false, false] rfl rfl (any_of HT_.out (by kernel_rfl)) (fun _ _ _ h => h) (Or.inr ⟨by rfl, rfl⟩) ?_ ?_
       rotate_left
       · exact bA
       refine pure_ (i := 6) (N := some 34) (v := undef) (a' := ?_) #[true, true, true, true, true, true, true, false, false, false, false, false, false, false, false, false] rfl rfl (any_of HT_.out (by kernel_rfl)) (fun _ _ _ h => h) (Or.inr ⟨by rfl, rfl⟩) ?_ ?_
       rotate_left
       · exact bA
       refine pure_ (i := 7) (N := some 35) (v := undef) (a' := ?_) #[true, true, true, true, true, true, true, true, false, false, false, false, false, false, false, false] rfl rfl (any_of HT_.out (by kernel_rfl)) (fun _ _ _ h => h) (Or.inr ⟨by rfl, rfl⟩) ?_ ?_
       rotate_left
       · exact bA
       refine pure_ (i := 8) (N := some 36) (v := undef) (a' := ?_) #[true, true, true, true, true, true, true, true, true, false, false, false, false, false, false, false] rfl rfl (any_of HT_.out (by kernel_rfl)) (fun _ _ _ h => h) (Or.inr ⟨by rfl, rfl⟩) ?_ ?_
       rotate_left
       · exact bA
       refine pure_ (i := 9) (N := some 37) (v := undef) (a' := ?_) #[true, true, true, true, true, true, true, true, true, true, false, false, false, false, false, false] rfl rfl (any_of HT_.out (by kernel_rfl)) (fun _ _ _ h => h) (Or.inr ⟨by rfl, rfl⟩) ?_ ?_
       rotate_left
       · exact bA
       refine pure_ (i := 10) (N := some 38) (v := undef) (a' := ?_) #[true, true, true, true, true, true, true, true, true, true, true, false, false, false, false, false] rfl rfl (any_of HT_.out (by kernel_rfl)) (fun _ _ _ h => h) (Or.inr ⟨by rfl, rfl⟩) ?_ ?_
       rotate_left
       · exact bA
       refine pure_ (i := 11) (N := some 39) (v := undef) (a' := ?_) #[true, true, true, true, true, true, true, true, true, true, true, true, false, false, false, false] rfl rfl (any_of HT_.out (by kernel_rfl)) (fun _ _ _ h => h) (Or.inr ⟨by rfl, rfl⟩) ?_ ?_
       rotate_left
       · exact bA
       refine pure_ (i := 12) (N := some 40) (v := undef) (a' := ?_) #[true, true, true, true, true, true, true, true, true, true, true, true, true, false, false, false] rfl rfl (any_of HT_.out (by kernel_rfl)) (fun _ _ _ h => h) (Or.inr ⟨by rfl, rfl⟩) ?_ ?_
       rotate_left
       · exact bA
       refine pure_ (i := 13) (N := some 41) (v := undef) (a' := ?_) #[true, true, true, true, true, true, true, true, true, true, true, true, true, true, false, false] rfl rfl (any_of HT_.out (by kernel_rfl)) (fun _ _ _ h => h) (Or.inr ⟨by rfl, rfl⟩) ?_ ?_
       rotate_left
       · exact bA
       refine pure_ (i := 14) (N := some 42) (v := undef) (a' := ?_) #[true, true, true, true, true, true, true, true, true, true, true, true, true, true, true, false] rfl rfl (any_of HT_.out (by kernel_rfl)) (fun _ _ _ h => h) (Or.inr ⟨by rfl, rfl⟩) ?_ ?_
       rotate_left
       · exact bA
       refine pure_ (i := 15) (N := some 43) (v := ?_) (a' := ?_) #[true, true, true, true, true, true, true, true, true, true, true, true, true, true, true, true] rfl rfl (any_of HT_.out (by kernel_rfl)) (fun _ _ _ h => h) (Or.inl ⟨by rfl, ?_⟩) ?_ ?_
       rotate_left
       ·
        intro w'
        go_simp
        with_reducible rfl
       rotate_left
       · exact bA
       refine done_ (done_of HT_.out (by kernel_rfl)) ?_
       try go_wp2
       first | go_end0 | ((try simp only [Exit.inBlock, Exit.then]); refine bodyPost_ret (results_none rfl _ _ _) rfl ?_)
       exact ⟨by first | rfl | (simp [errW_none, errW_some] <;> rfl) | (simp [*, errW_none, errW_some] <;> rfl), by (with_reducible repeat (first | apply Kd.R_alloc | apply Kd.R_drewN | apply Kd.R_drew)); exact HO_0.out, by repeat (first | (with_reducible first | exact HB.out | apply below_alloc | apply pw_below_drewN | apply below_drew1) | exact HB.out), by repeat (first | (with_reducible first | exact HK.out | apply Kept.alloc | apply Kept.drewN | apply Kept.drew) | exact HK.out)⟩
      ·
       rw [if_neg c38] at H
       have c38b0 : decide ((x0_1.length : Int) ≤ (wrap64 ((wrap64 (2 * x1_1)) + 1))) = false := decide_eq_false c38
       clear c38
       obtain ⟨ji41, hji41⟩ : ∃ j_ : Int, (wrap64 ((wrap64 (2 * x1_1)) + 1)) = j_ := ⟨_, rfl⟩
       replace H : (if 0 ≤ (ji41) then (if (ji41) < (x0_1.length : Int) then (if 0 ≤ x1_1 then (if x1_1 < (x0_1.length : Int) then ((rank_Cmp.f kj2 ((rd_T25 x0_1 (ji41)).f0) ((rd_T25 x0_1 (ji41)).f1) ((rd_T25 x0_1 (ji41)).f2) ((rd_T25 x0_1 x1_1).f0) ((rd_T25 x0_1 x1_1).f1) ((rd_T25 x0_1 x1_1).f2)).bind fun t166 => (if t166 ≤ 0 then (some x0_1) else (heap_sink.l0 kj2 ((x0_1.set (x1_1 : Int).toNat (⟨(rd_T25 x0_1 (ji41)).f0, (rd_T25 x0_1 (ji41)).f1, (rd_T25 x0_1 (ji41)).f2⟩ : S25)).set ((ji41) : Int).toNat (⟨(rd_T25 x0_1 x1_1).f0, (rd_T25 x0_1 x1_1).f1, (rd_T25 x0_1 x1_1).f2⟩ : S25)) (ji41)))) else (none)) else (none)) else (none)) else (none)) = some r := by first | (rw [hji41] at H; exact H) | (simp only [hji41] at H ⊢; exact H)
       (try rw [hji41])
       (try rw [hji41] at c38b0)
       have hji41w : (IntKind.i64.wrap ((wrap64 (2 * x1_1)) + 1)) = ji41 := (i64_w _).trans hji41
       by_cases c42 : 0 ≤ (ji41)
       ·
        rw [if_pos c42] at H
        have c42b0 : decide (0 ≤ (ji41)) = true := decide_eq_true c42
        clear c42
        by_cases c43 : (ji41) < (x0_1.length : Int)
        ·
         rw [if_pos c43] at H
         have c43b0 : decide ((ji41) < (x0_1.length : Int)) = true := decide_eq_true c43
         clear c43
         by_cases c44 : 0 ≤ x1_1
         ·
          rw [if_pos c44] at H
          have c44b0 : decide (0 ≤ x1_1) = true := decide_eq_true c44
          clear c44
          by_cases c45 : x1_1 < (x0_1.length : Int)
          ·
           rw [if_pos c45] at H
           have c45b0 : decide (x1_1 < (x0_1.length : Int)) = true := decide_eq_true c45
           clear c45
           replace H := Option.bind_eq_some_iff.mp H
           obtain ⟨t166, A460, H⟩ := H
           replace H : (if t166 ≤ 0 then (some x0_1) else (heap_sink.l0 kj2 ((x0_1.set (x1_1 : Int).toNat (⟨(rd_T25 x0_1 (ji41)).f0, (rd_T25 x0_1 (ji41)).f1, (rd_T25 x0_1 (ji41)).f2⟩ : S25)).set ((ji41) : Int).toNat (⟨(rd_T25 x0_1 x1_1).f0, (rd_T25 x0_1 x1_1).f1, (rd_T25 x0_1 x1_1).f2⟩ : S25)) (ji41))) = some r := H
           have A46 := Aside0.mk A460
           clear A460
           by_cases c47 : t166 ≤ 0
           ·
            rw [if_pos c47] at H
            have c47b0 : decide (t166 ≤ 0) = true := decide_eq_true c47
            clear c47
            obtain rfl := Option.some.inj H
            try go_wp2
            have n0_ := Aside0.mk (Kd.R_drew HO_0.out)
            have n1_ := Aside0.mk (Kept.drew HK.out)
            have n2_ := Aside0.mk (below_drew1 HB.out)
            clear HO_0 HK HB
            have HO_0 := n0_
            have HK := n1_
            have HB := n2_
            clear n0_ n1_ n2_
            obtain ⟨Ao49, co49, eo49⟩ := Kd.R_slice HO_0.out
            (first | subst eo49 | (injection eo49 with f1_ f2_ f3_; have f4_ := f1_.symm; have f5_ := f3_.symm; clear f1_ f2_ f3_; subst f4_; subst f5_))
            have p164 : 0 ≤ ((ji41) : Int) := of_decide_eq_true (by first | (with_reducible assumption) | assumption)
            have q164 : (ji41) < (x0_1.length : Int) := of_decide_eq_true (by first | (with_reducible assumption) | assumption)
            obtain ⟨ad164, e164, hx164_0, hx164_1, hx164_2⟩ := at_T25 (Kd.R_reads' HO_0.out).2.2 (ji41) p164 q164
            cases e164
            replace p164 := eq_true p164
            replace q164 := eq_true q164
            have p165 : 0 ≤ (x1_1 : Int) := of_decide_eq_true (by first | (with_reducible assumption) | assumption)
            have q165 : x1_1 < (x0_1.length : Int) := of_decide_eq_true (by first | (with_reducible assumption) | assumption)
            obtain ⟨ad165, e165, hx165_0, hx165_1, hx165_2⟩ := at_T25 (Kd.R_reads' HO_0.out).2.2 x1_1 p165 q165
            obtain rfl : ad164 = ad165 := (by injection e165)
            replace p165 := eq_true p165
            replace q165 := eq_true q165
            refine start_ (n := 16) (S := fun w' => w'.cell? (ad164.add (((ji41)).toNat * 3)) = some (.string ((rd_T25 x0_1 (ji41)).f0)) ∧ w'.cell? ⟨(ad164.add (((ji41)).toNat * 3)).block, (ad164.add (((ji41)).toNat * 3)).off + 1, none⟩ = some (.int .u64 ((rd_T25 x0_1 (ji41)).f1)) ∧ w'.cell? ⟨(ad164.add (((ji41)).toNat * 3)).block, (ad164.add (((ji41)).toNat * 3)).off + 2, none⟩ = some (.int .u64 ((rd_T25 x0_1 (ji41)).f2)) ∧ w'.cell? (ad164.add ((x1_1).toNat * 3)) = some (.string ((rd_T25 x0_1 x1_1).f0)) ∧ w'.cell? ⟨(ad164.add ((x1_1).toNat * 3)).block, (ad164.add ((x1_1).toNat * 3)).off + 1, none⟩ = some (.int .u64 ((rd_T25 x0_1 x1_1).f1)) ∧ w'.cell? ⟨(ad164.add ((x1_1).toNat * 3)).block, (ad164.add ((x1_1).toNat * 3)).off + 2, none⟩ = some (.int .u64 ((rd_T25 x0_1 x1_1).f2))) (ds := []) #[false, false, false, false, false, false, false, false, false, false, false, false, false, false, false, false] (by kernel_rfl) rfl rfl ⟨hx164_0, hx164_1, hx164_2, hx165_0, hx165_1, hx165_2⟩ (fun hHeld => ?_); refine with_tabW heap_sink.tab3 heap_sink.bits3 (fun HT_ HW_ => ?_)
            generalize wc.drew = w48 at HO_0 HK HB hx164_0 hx164_1 hx164_2 hx165_0 hx165_1 hx165_2 hHeld ⊢
            refine pure_ (i := 0) (N := some 28) (v := ?_) (a' := ?_) #[true, false, false, false, false, false, false, false, false, false, false, false, false, false, false, false] rfl rfl (any_of HT_.out (by kernel_rfl)) (fun _ _ _ h => h) (Or.inl ⟨by rfl, ?_⟩) ?_ ?_
            rotate_left
            ·
             intro w'
             go_simp
             with_reducible rfl
            rotate_left
            · exact bA
            refine pure_ (i := 1) (N := some 29) (v := ?_) (a' := ?_) #[true, true, false, false, false, false, false, false, false, false, false, false, false, false, false, false] rfl rfl (any_of HT_.out (by kernel_rfl)) (fun _ _ _ h => h) (Or.inl ⟨by rfl, ?_⟩) ?_ ?_
            rotate_left
            ·
             intro w'
             go_simp
             with_reducible rfl
            rotate_left
            · exact bA
            refine pure_ (i := 2) (N := some 30) (v := ?_) (a' := ?_) #[true, true, true, false, false, false, false, false, false, false, false, false, false, false, false, false] rfl rfl (any_of HT_.out (by kernel_rfl)) (fun _ _ _ h => h) (Or.inl ⟨by rfl, ?_⟩) ?_ ?_
            rotate_left
            ·
             intro w'
             go_simp
             with_reducible rfl
            rotate_left
            · exact bA
            refine pure_ (i := 3) (N := some 31) (v := ?_) (a' := ?_) #[true, true, true, true, false, false, false, false, false, false, false, false, false, false, false, false] rfl rfl (any_of HT_.out (by kernel_rfl)) (fun _ _ _ h => h) (Or.inl ⟨by rfl, ?_⟩) ?_ ?_
            rotate_left
            ·
             intro w'
             go_simp
             with_reducible rfl
            rotate_left
            · exact bA
            refine pure_ (i := 4) (N := some 32) (v := ?_) (a' := ?_) #[true, true, true, true, true, false, false, false, false, false, false, false, false, false, false, false] rfl rfl (any_of HT_.out (by kernel_rfl)) (fun _ _ _ h => h) (Or.inl ⟨by rfl, ?_⟩) ?_ ?_
            rotate_left
            ·
             intro w'
             go_simp
             with_reducible rfl
            rotate_left
            · exact bA
            refine pure_ (i := 5) (N := some 33) (v := ?_) (a' := ?_) #[true, true, true, true, true, true, false, false, false, false, false, false, false, false, false, false] rfl rfl (any_of HT_.out (by kernel_rfl)) (fun _ _ _ h => h) (Or.inl ⟨by rfl, ?_⟩) ?_ ?_
            rotate_left
            ·
             intro w'
             go_simp
             with_reducible rfl
            rotate_left
            · exact bA
            refine pure_ (i := 6) (N := some 34) (v := ?_) (a' := ?_) #[true, true, true, true, true, true, true, false, false, false, false, false, false, false, false, false] rfl rfl (any_of HT_.out (by kernel_rfl)) (fun _ _ _ h => h) (Or.inl ⟨by rfl, ?_⟩) ?_ ?_
            rotate_left
            ·
             intro w'
             go_simp
             with_reducible rfl
            rotate_left
            · exact bA
            refine pure_ (i := 7) (N := some 35) (v := ?_) (a' := ?_) #[true, true, true, true, true, true, true, true, false, false, false, false, false, false, false, false] rfl rfl (any_of HT_.out (by kernel_rfl)) (fun _ _ _ h => h) (Or.inl ⟨by rfl, ?_⟩) ?_ ?_
            rotate_left
            ·
             intro w'
             go_simp
             with_reducible rfl
            rotate_left
            · exact bA
            refine pure_ (i := 9) (N := some 37) (v := ?_) (a' := ?_) #[true, true, true, true, true, true, true, true, false, true, false, false, false, false, false, false] rfl rfl (any_of HT_.out (by kernel_rfl)) (fun _ _ _ h => h) (Or.inl ⟨by rfl, ?_⟩) ?_ ?_
            rotate_left
            ·
             intro w'
             go_simp
             with_reducible rfl
            rotate_left
            · exact bA
            refine pure_ (i := 10) (N := some 38) (v := ?_) (a' := ?_) #[true, true, true, true, true, true, true, true, false, true, true, false, false, false, false, false] rfl rfl (any_of HT_.out (by kernel_rfl)) (fun _ _ _ h => h) (Or.inl ⟨by rfl, ?_⟩) ?_ ?_
            rotate_left
            ·
             intro w'
             go_simp
             with_reducible rfl
            rotate_left
            · exact bA
            refine pure_ (i := 11) (N := some 39) (v := ?_) (a' := ?_) #[true, true, true, true, true, true, true, true, false, true, true, true, false, false, false, false] rfl rfl (any_of HT_.out (by kernel_rfl)) (fun _ _ _ h => h) (Or.inl ⟨by rfl, ?_⟩) ?_ ?_
            rotate_left
            ·
             intro w'
             go_simp
             with_reducible rfl
            rotate_left
            · exact bA
            refine take_ (i := 8) (N := some 36) (v := ?_) (a' := ?_) #[true, true, true, true, true, true, true, true, true, true, true, true, false, false, false, false] rfl rfl (take_ofW HT_.out HW_.out (by kernel_rfl)) (fun _ _ _ h => h) (Or.inl ⟨by rfl, ?_⟩) hHeld ?_ ?_
            rotate_left
            ·
             rintro w' ⟨s0, s1, s2, s3, s4, s5⟩
             (try simp only [add_plain] at s0 s1 s2 s3 s4 s5)
             go_simp
             with_reducible rfl
            rotate_left
            · exact bA
            refine take_ (i := 12) (N := some 40) (v := ?_) (a' := ?_) #[true, true, true, true, true, true, true, true, true, true, true, true, true, false, false, false] rfl rfl (take_ofW HT_.out HW_.out (by kernel_rfl)) (fun _ _ _ h => h) (Or.inl ⟨by rfl, ?_⟩) hHeld ?_ ?_
            rotate_left
            ·
             rintro w' ⟨s0, s1, s2, s3, s4, s5⟩
             (try simp only [add_plain] at s0 s1 s2 s3 s4 s5)
             go_simp
             with_reducible rfl
            rotate_left
            · exact bA
            refine one_ (i := 13) (N := some 41) #[true, true, true, true, true, true, true, true, true, true, true, true, true, true, false, false] rfl rfl (one_of HT_.out (by kernel_rfl)) (by decide) (fun K hK => ?_)
            refine goes_ Try.func23 (by kernel_rfl) rfl #[.agg #[.string ((rd_T25 x0_1 (ji41)).f0), .int .u64 ((rd_T25 x0_1 (ji41)).f1), .int .u64 ((rd_T25 x0_1 (ji41)).f2)], .agg #[.string ((rd_T25 x0_1 x1_1).f0), .int .u64 ((rd_T25 x0_1 x1_1).f1), .int .u64 ((rd_T25 x0_1 x1_1).f2)]] (by rfl) rfl rfl (by (try simp only [List.map_toArray, List.map_cons, List.map_nil]); first | done | (simp only [hji41]; rfl) | rfl | (simp only [List.length_drop, List.length_take]; rfl)) ?_
            with_reducible refine (rank_Cmp.calls kj2 ((rd_T25 x0_1 (ji41)).f0) ((rd_T25 x0_1 (ji41)).f1) ((rd_T25 x0_1 (ji41)).f2) ((rd_T25 x0_1 x1_1).f0) ((rd_T25 x0_1 x1_1).f1) ((rd_T25 x0_1 x1_1).f2) t166 _ A46.out).mono ?_
            rintro e w50 ⟨rfl, hb⟩
            have HS0_ := (hb.cell (World.block_lt_of_cell? _ _ (hHeld.1))).trans (hHeld.1)
            have HS1_ := (hb.cell (World.block_lt_of_cell? _ _ (hHeld.2.1))).trans (hHeld.2.1)
            have HS2_ := (hb.cell (World.block_lt_of_cell? _ _ (hHeld.2.2.1))).trans (hHeld.2.2.1)
            have HS3_ := (hb.cell (World.block_lt_of_cell? _ _ (hHeld.2.2.2.1))).trans (hHeld.2.2.2.1)
            have HS4_ := (hb.cell (World.block_lt_of_cell? _ _ (hHeld.2.2.2.2.1))).trans (hHeld.2.2.2.2.1)
            have HS5_ := (hb.cell (World.block_lt_of_cell? _ _ (hHeld.2.2.2.2.2))).trans (hHeld.2.2.2.2.2)
            refine ⟨_, rfl, ?_⟩
            have n0_ := Aside0.mk (Kd.R_below (by (with_reducible repeat (first | apply Kd.R_alloc | apply Kd.R_drewN | apply Kd.R_drew)); exact HO_0.out) hb)
            have n1_ := Aside0.mk (Kept.below (S := (fun k_ => P0_ k_)) (by repeat (first | (with_reducible first | exact HK.out | apply Kept.alloc | apply Kept.drewN | apply Kept.drew) | exact HK.out)) hb)
            have n2_ := Aside0.mk (below_step (bW HB.out) hb)
            clear HO_0 HK HB
            have HO_0 := n0_
            have HK := n1_
            have HB := n2_
            clear n0_ n1_ n2_
            (try clear hb)
            (try clear hb2)
            (try clear hk)
            (try clear hi)
            refine hK.out _ _ ⟨HS0_, HS1_, HS2_, HS3_, HS4_, HS5_⟩ (fun hHeld => ?_)
            clear hK K
            refine norm_ (a' := ?_) ?_ ?_
            rotate_left
            ·
             show Act.put _ (some 41) _ = _
             simp only [Act.put, List.setIfInBounds_toArray, List.set_cons_zero, List.set_cons_succ, i64_w, i32_w]
             rfl
            refine pure_ (i := 14) (N := some 42) (v := ?_) (a' := ?_) #[true, true, true, true, true, true, true, true, true, true, true, true, true, true, true, false] rfl rfl (any_of HT_.out (by kernel_rfl)) (fun _ _ _ h => h) (Or.inl ⟨by rfl, ?_⟩) ?_ ?_
            rotate_left
            ·
             intro w'
             go_simp
             with_reducible rfl
            rotate_left
            · exact bA
            refine pure_ (i := 15) (N := some 43) (v := ?_) (a' := ?_) #[true, true, true, true, true, true, true, true, true, true, true, true, true, true, true, true] rfl rfl (any_of HT_.out (by kernel_rfl)) (fun _ _ _ h => h) (Or.inl ⟨by rfl, ?_⟩) ?_ ?_
            rotate_left
            ·
             intro w'
             go_simp
             with_reducible rfl
            rotate_left
            · exact bA
            refine done_ (done_of HT_.out (by kernel_rfl)) ?_
            try go_wp2
            first | go_end0 | ((try simp only [Exit.inBlock, Exit.then]); refine bodyPost_ret (results_none rfl _ _ _) rfl ?_)
            exact ⟨by first | rfl | (simp [errW_none, errW_some] <;> rfl) | (simp only [← hji41]; first | rfl | (simp [errW_none, errW_some] <;> rfl)) | (simp [*, errW_none, errW_some] <;> rfl), by (with_reducible repeat (first | apply Kd.R_alloc | apply Kd.R_drewN | apply Kd.R_drew)); exact HO_0.out, by repeat (first | (with_reducible first | exact HB.out | apply below_alloc | apply pw_below_drewN | apply below_drew1) | exact HB.out), by repeat (first | (with_reducible first | exact HK.out | apply Kept.alloc | apply Kept.drewN | apply Kept.drew) | exact HK.out)⟩
           ·
            rw [if_neg c47] at H
            have c47b0 : decide (t166 ≤ 0) = false := decide_eq_false c47
            clear c47
            obtain ⟨y169, hy169⟩ : ∃ y_ : List (S25), y_ = (x0_1.set (x1_1 : Int).toNat (⟨(rd_T25 x0_1 (ji41)).f0, (rd_T25 x0_1 (ji41)).f1, (rd_T25 x0_1 (ji41)).f2⟩ : S25)) := ⟨_, rfl⟩
            replace H : (heap_sink.l0 kj2 (y169.set ((ji41) : Int).toNat (⟨(rd_T25 x0_1 x1_1).f0, (rd_T25 x0_1 x1_1).f1, (rd_T25 x0_1 x1_1).f2⟩ : S25)) (ji41)) = some r := by first | (rw [hy169]; with_reducible exact H) | (have H2_ := (Option.bind_some _ _).symm.trans H; rw [hy169]; with_reducible exact H2_) | (have H2_ := (Option.bind_some _ _).symm.trans H; with_reducible exact H2_) | with_reducible exact H | (rw [hy169]; exact H) | exact H
            have Ny169 := Aside0.mk hy169
            clear hy169
            obtain ⟨y170, hy170⟩ : ∃ y_ : List (S25), y_ = (y169.set ((ji41) : Int).toNat (⟨(rd_T25 x0_1 x1_1).f0, (rd_T25 x0_1 x1_1).f1, (rd_T25 x0_1 x1_1).f2⟩ : S25)) := ⟨_, rfl⟩
            replace H : (heap_sink.l0 kj2 y170 (ji41)) = some r := by first | (rw [hy170]; with_reducible exact H) | (have H2_ := (Option.bind_some _ _).symm.trans H; rw [hy170]; with_reducible exact H2_) | (have H2_ := (Option.bind_some _ _).symm.trans H; with_reducible exact H2_) | with_reducible exact H | (rw [hy170]; exact H) | exact H
            have Ny170 := Aside0.mk hy170
            clear hy170
            have H' := Aside0.mk H
            clear H
            try go_wp2
            have n0_ := Aside0.mk (Kd.R_drew HO_0.out)
            have n1_ := Aside0.mk (Kept.drew HK.out)
            have n2_ := Aside0.mk (below_drew1 HB.out)
            clear HO_0 HK HB
            have HO_0 := n0_
            have HK := n1_
            have HB := n2_
            clear n0_ n1_ n2_
            obtain ⟨Ao54, co54, eo54⟩ := Kd.R_slice HO_0.out
            (first | subst eo54 | (injection eo54 with f1_ f2_ f3_; have f4_ := f1_.symm; have f5_ := f3_.symm; clear f1_ f2_ f3_; subst f4_; subst f5_))
            have p164 : 0 ≤ ((ji41) : Int) := of_decide_eq_true (by first | (with_reducible assumption) | assumption)
            have q164 : (ji41) < (x0_1.length : Int) := of_decide_eq_true (by first | (with_reducible assumption) | assumption)
            obtain ⟨ad164, e164, hx164_0, hx164_1, hx164_2⟩ := at_T25 (Kd.R_reads' HO_0.out).2.2 (ji41) p164 q164
            cases e164
            replace p164 := eq_true p164
            replace q164 := eq_true q164
            have p165 : 0 ≤ (x1_1 : Int) := of_decide_eq_true (by first | (with_reducible assumption) | assumption)
            have q165 : x1_1 < (x0_1.length : Int) := of_decide_eq_true (by first | (with_reducible assumption) | assumption)
            obtain ⟨ad165, e165, hx165_0, hx165_1, hx165_2⟩ := at_T25 (Kd.R_reads' HO_0.out).2.2 x1_1 p165 q165
            obtain rfl : ad164 = ad165 := (by injection e165)
            replace p165 := eq_true p165
            replace q165 := eq_true q165
            refine start_ (n := 16) (S := fun w' => w'.cell? (ad164.add (((ji41)).toNat * 3)) = some (.string ((rd_T25 x0_1 (ji41)).f0)) ∧ w'.cell? ⟨(ad164.add (((ji41)).toNat * 3)).block, (ad164.add (((ji41)).toNat * 3)).off + 1, none⟩ = some (.int .u64 ((rd_T25 x0_1 (ji41)).f1)) ∧ w'.cell? ⟨(ad164.add (((ji41)).toNat * 3)).block, (ad164.add (((ji41)).toNat * 3)).off + 2, none⟩ = some (.int .u64 ((rd_T25 x0_1 (ji41)).f2)) ∧ w'.cell? (ad164.add ((x1_1).toNat * 3)) = some (.string ((rd_T25 x0_1 x1_1).f0)) ∧ w'.cell? ⟨(ad164.add ((x1_1).toNat * 3)).block, (ad164.add ((x1_1).toNat * 3)).off + 1, none⟩ = some (.int .u64 ((rd_T25 x0_1 x1_1).f1)) ∧ w'.cell? ⟨(ad164.add ((x1_1).toNat * 3)).block, (ad164.add ((x1_1).toNat * 3)).off + 2, none⟩ = some (.int .u64 ((rd_T25 x0_1 x1_1).f2))) (ds := []) #[false, false, false, false, false, false, false, false, false, false, false, false, false, false, false, false] (by kernel_rfl) rfl rfl ⟨hx164_0, hx164_1, hx164_2, hx165_0, hx165_1, hx165_2⟩ (fun hHeld => ?_); refine with_tabW heap_sink.tab3 heap_sink.bits3 (fun HT_ HW_ => ?_)
            generalize wc.drew = w53 at HO_0 HK HB hx164_0 hx164_1 hx164_2 hx165_0 hx165_1 hx165_2 hHeld ⊢
            refine pure_ (i := 0) (N := some 28) (v := ?_) (a' := ?_) #[true, false, false, false, false, false, false, false, false, false, false, false, false, false, false, false] rfl rfl (any_of HT_.out (by kernel_rfl)) (fun _ _ _ h => h) (Or.inl ⟨by rfl, ?_⟩) ?_ ?_
            rotate_left
            ·
             intro w'
             go_simp
             with_reducible rfl
            rotate_left
            · exact bA
            refine pure_ (i := 1) (N := some 29) (v := ?_) (a' := ?_) #[true, true, false, false, false, false, false, false, false, false, false, false, false, false, false, false] rfl rfl (any_of HT_.out (by kernel_rfl)) (fun _ _ _ h => h) (Or.inl ⟨by rfl, ?_⟩) ?_ ?_
            rotate_left
            ·
             intro w'
             go_simp
             with_reducible rfl
            rotate_left
            · exact bA
            refine pure_ (i := 2) (N := some 30) (v := ?_) (a' := ?_) #[true, true, true, false, false, false, false, false, false, false, false, false, false, false, false, false] rfl rfl (any_of HT_.out (by kernel_rfl)) (fun _ _ _ h => h) (Or.inl ⟨by rfl, ?_⟩) ?_ ?_
            rotate_left
            ·
             intro w'
             go_simp
             with_reducible rfl
            rotate_left
            · exact bA
            refine pure_ (i := 3) (N := some 31) (v := ?_) (a' := ?_) #[true, true, true, true, false, false, false, false, false, false, false, false, false, false, false, false] rfl rfl (any_of HT_.out (by kernel_rfl)) (fun _ _ _ h => h) (Or.inl ⟨by rfl, ?_⟩) ?_ ?_
            rotate_left
            ·
             intro w'
             go_simp
             with_reducible rfl
            rotate_left
            · exact bA
            refine pure_ (i := 4) (N := some 32) (v := ?_) (a' := ?_) #[true, true, true, true, true, false, false, false, false, false, false, false, false, false, false, false] rfl rfl (any_of HT_.out (by kernel_rfl)) (fun _ _ _ h => h) (Or.inl ⟨by rfl, ?_⟩) ?_ ?_
            rotate_left
            ·
             intro w'
             go_simp
             with_reducible rfl
            rotate_left
            · exact bA
            refine pure_ (i := 5) (N := some 33) (v := ?_) (a' := ?_) #[true, true, true, true, true, true, false, false, false, false, false, false, false, false, false, false] rfl rfl (any_of HT_.out (by kernel_rfl)) (fun _ _ _ h => h) (Or.inl ⟨by rfl, ?_⟩) ?_ ?_
            rotate_left
            ·
             intro w'
             go_simp
             with_reducible rfl
            rotate_left
            · exact bA
            refine pure_ (i := 6) (N := some 34) (v := ?_) (a' := ?_) #[true, true, true, true, true, true, true, false, false, false, false, false, false, false, false, false] rfl rfl (any_of HT_.out (by kernel_rfl)) (fun _ _ _ h => h) (Or.inl ⟨by rfl, ?_⟩) ?_ ?_
            rotate_left
            ·
             intro w'
             go_simp
             with_reducible rfl
            rotate_left
            · exact bA
            refine pure_ (i := 7) (N := some 35) (v := ?_) (a' := ?_) #[true, true, true, true, true, true, true, true, false, false, false, false, false, false, false, false] rfl rfl (any_of HT_.out (by kernel_rfl)) (fun _ _ _ h => h) (Or.inl ⟨by rfl, ?_⟩) ?_ ?_
            rotate_left
            ·
             intro w'
             go_simp
             with_reducible rfl
            rotate_left
            · exact bA
            refine pure_ (i := 9) (N := some 37) (v := ?_) (a' := ?_) #[true, true, true, true, true, true, true, true, false, true, false, false, false, false, false, false] rfl rfl (any_of HT_.out (by kernel_rfl)) (fun _ _ _ h => h) (Or.inl ⟨by rfl, ?_⟩) ?_ ?_
            rotate_left
            ·
             intro w'
             go_simp
             with_reducible rfl
            rotate_left
            · exact bA
            refine pure_ (i := 10) (N := some 38) (v := ?_) (a' := ?_) #[true, true, true, true, true, true, true, true, false, true, true, false, false, false, false, false] rfl rfl (any_of HT_.out (by kernel_rfl)) (fun _ _ _ h => h) (Or.inl ⟨by rfl, ?_⟩) ?_ ?_
            rotate_left
            ·
             intro w'
             go_simp
             with_reducible rfl
            rotate_left
            · exact bA
            refine pure_ (i := 11) (N := some 39) (v := ?_) (a' := ?_) #[true, true, true, true, true, true, true, true, false, true, true, true, false, false, false, false] rfl rfl (any_of HT_.out (by kernel_rfl)) (fun _ _ _ h => h) (Or.inl ⟨by rfl, ?_⟩) ?_ ?_
            rotate_left
            ·
             intro w'
             go_simp
             with_reducible rfl
            rotate_left
            · exact bA
            refine take_ (i := 8) (N := some 36) (v := ?_) (a' := ?_) #[true, true, true, true, true, true, true, true, true, true, true, true, false, false, false, false] rfl rfl (take_ofW HT_.out HW_.out (by kernel_rfl)) (fun _ _ _ h => h) (Or.inl ⟨by rfl, ?_⟩) hHeld ?_ ?_
            rotate_left
            ·
             rintro w' ⟨s0, s1, s2, s3, s4, s5⟩
             (try simp only [add_plain] at s0 s1 s2 s3 s4 s5)
             go_simp
             with_reducible rfl
            rotate_left
            · exact bA
            refine take_ (i := 12) (N := some 40) (v := ?_) (a' := ?_) #[true, true, true, true, true, true, true, true, true, true, true, true, true, false, false, false] rfl rfl (take_ofW HT_.out HW_.out (by kernel_rfl)) (fun _ _ _ h => h) (Or.inl ⟨by rfl, ?_⟩) hHeld ?_ ?_
            rotate_left
            ·
             rintro w' ⟨s0, s1, s2, s3, s4, s5⟩
             (try simp only [add_plain] at s0 s1 s2 s3 s4 s5)
             go_simp
             with_reducible rfl
            rotate_left
            · exact bA
            refine one_ (i := 13) (N := some 41) #[true, true, true, true, true, true, true, true, true, true, true, true, true, true, false, false] rfl rfl (one_of HT_.out (by kernel_rfl)) (by decide) (fun K hK => ?_)
            refine goes_ Try.func23 (by kernel_rfl) rfl #[.agg #[.string ((rd_T25 x0_1 (ji41)).f0), .int .u64 ((rd_T25 x0_1 (ji41)).f1), .int .u64 ((rd_T25 x0_1 (ji41)).f2)], .agg #[.string ((rd_T25 x0_1 x1_1).f0), .int .u64 ((rd_T25 x0_1 x1_1).f1), .int .u64 ((rd_T25 x0_1 x1_1).f2)]] (by rfl) rfl rfl (by (try simp only [List.map_toArray, List.map_cons, List.map_nil]); first | done | (simp only [hji41]; rfl) | rfl | (simp only [List.length_drop, List.length_take]; rfl)) ?_
            with_reducible refine (rank_Cmp.calls kj2 ((rd_T25 x0_1 (ji41)).f0) ((rd_T25 x0_1 (ji41)).f1) ((rd_T25 x0_1 (ji41)).f2) ((rd_T25 x0_1 x1_1).f0) ((rd_T25 x0_1 x1_1).f1) ((rd_T25 x0_1 x1_1).f2) t166 _ A46.out).mono ?_
            rintro e w55 ⟨rfl, hb⟩
            have HS0_ := (hb.cell (World.block_lt_of_cell? _ _ (hHeld.1))).trans (hHeld.1)
            have HS1_ := (hb.cell (World.block_lt_of_cell? _ _ (hHeld.2.1))).trans (hHeld.2.1)
            have HS2_ := (hb.cell (World.block_lt_of_cell? _ _ (hHeld.2.2.1))).trans (hHeld.2.2.1)
            have HS3_ := (hb.cell (World.block_lt_of_cell? _ _ (hHeld.2.2.2.1))).trans (hHeld.2.2.2.1)
            have HS4_ := (hb.cell (World.block_lt_of_cell? _ _ (hHeld.2.2.2.2.1))).trans (hHeld.2.2.2.2.1)
            have HS5_ := (hb.cell (World.block_lt_of_cell? _ _ (hHeld.2.2.2.2.2))).trans (hHeld.2.2.2.2.2)
            refine ⟨_, rfl, ?_⟩
            have n0_ := Aside0.mk (Kd.R_below (by (with_reducible repeat (first | apply Kd.R_alloc | apply Kd.R_drewN | apply Kd.R_drew)); exact HO_0.out) hb)
            have n1_ := Aside0.mk (Kept.below (S := (fun k_ => P0_ k_)) (by repeat (first | (with_reducible first | exact HK.out | apply Kept.alloc | apply Kept.drewN | apply Kept.drew) | exact HK.out)) hb)
            have n2_ := Aside0.mk (below_step (bW HB.out) hb)
            clear HO_0 HK HB
            have HO_0 := n0_
            have HK := n1_
            have HB := n2_
            clear n0_ n1_ n2_
            (try clear hb)
            (try clear hb2)
            (try clear hk)
            (try clear hi)
            refine hK.out _ _ ⟨HS0_, HS1_, HS2_, HS3_, HS4_, HS5_⟩ (fun hHeld => ?_)
            clear hK K
            refine norm_ (a' := ?_) ?_ ?_
            rotate_left
            ·
             show Act.put _ (some 41) _ = _
             simp only [Act.put, List.setIfInBounds_toArray, List.set_cons_zero, List.set_cons_succ, i64_w, i32_w]
             rfl
            refine pure_ (i := 14) (N := some 42) (v := ?_) (a' := ?_) #[true, true, true, true, true, true, true, true, true, true, true, true, true, true, true, false] rfl rfl (any_of HT_.out (by kernel_rfl)) (fun _ _ _ h => h) (Or.inl ⟨by rfl, ?_⟩) ?_ ?_
            rotate_left
            ·
             intro w'
             go_simp
             with_reducible rfl
            rotate_left
            · exact bA
            refine pure_ (i := 15) (N := some 43) (v := ?_) (a' := ?_) #[true, true, true, true, true, true, true, true, true, true, true, true, true, true, true, true] rfl rfl (any_of HT_.out (by kernel_rfl)) (fun _ _ _ h => h) (Or.inl ⟨by rfl, ?_⟩) ?_ ?_
            rotate_left
            ·
             intro w'
             go_simp
             with_reducible rfl
            rotate_left
            · exact bA
            refine done_ (done_of HT_.out (by kernel_rfl)) ?_
            try go_wp2
            have n0_ := Aside0.mk (Kd.R_drew HO_0.out)
            have n1_ := Aside0.mk (Kept.drew HK.out)
            have n2_ := Aside0.mk (below_drew1 HB.out)
            clear HO_0 HK HB
            have HO_0 := n0_
            have HK := n1_
            have HB := n2_
            clear n0_ n1_ n2_
            have p167 : 0 ≤ ((ji41) : Int) := of_decide_eq_true (by first | (with_reducible assumption) | assumption)
            have q167 : (ji41) < (x0_1.length : Int) := of_decide_eq_true (by first | (with_reducible assumption) | assumption)
            obtain ⟨ad167, e167, hx167_0, hx167_1, hx167_2⟩ := at_T25 (Kd.R_reads' HO_0.out).2.2 (ji41) p167 q167
            obtain rfl : ad164 = ad167 := (by injection e167)
            replace p167 := eq_true p167
            replace q167 := eq_true q167
            have p168 : 0 ≤ (x1_1 : Int) := of_decide_eq_true (by first | (with_reducible assumption) | assumption)
            have q168 : x1_1 < (x0_1.length : Int) := of_decide_eq_true (by first | (with_reducible assumption) | assumption)
            obtain ⟨ad168, e168, hx168_0, hx168_1, hx168_2⟩ := at_T25 (Kd.R_reads' HO_0.out).2.2 x1_1 p168 q168
            obtain rfl : ad164 = ad168 := (by injection e168)
            replace p168 := eq_true p168
            replace q168 := eq_true q168
            have p51 : 0 ≤ (x1_1 : Int) := of_decide_eq_true (by first | (with_reducible assumption) | assumption)
            have q51 : (x1_1 : Int) < ((x0_1.length : Int) : Int) := of_decide_eq_true (by first | (with_reducible assumption) | assumption)
            obtain ⟨go51, co51, eo51, gb51, gl51, cl51, HG51⟩ := Kd.R_form HO_0.out (by omega)
            (first | cases eo51 | (injection eo51 with ea_ en_ ec_; (first | subst ea_ | (injection ea_ with ea_; subst ea_)); subst ec_; clear en_))
            have GB51 := Aside0.mk gb51
            have GG51 := Aside0.mk HG51
            clear gb51 gl51 HG51
            have HMgo51 := Aside0.mk (show (P0_ go51 ∨ w.heap.size ≤ go51) from (HO_0.out.1 _ rfl))
            (first | simp only [add_plain] at hx164_0 | skip)
            (first | simp only [add_plain] at hx164_1 | skip)
            (first | simp only [add_plain] at hx164_2 | skip)
            (first | simp only [add_plain] at hx165_0 | skip)
            (first | simp only [add_plain] at hx165_1 | skip)
            (first | simp only [add_plain] at hx165_2 | skip)
            (first | simp only [add_plain] at hx167_0 | skip)
            (first | simp only [add_plain] at hx167_1 | skip)
            (first | simp only [add_plain] at hx167_2 | skip)
            (first | simp only [add_plain] at hx168_0 | skip)
            (first | simp only [add_plain] at hx168_1 | skip)
            (first | simp only [add_plain] at hx168_2 | skip)
            obtain ⟨ce51, hcl51, hM51, hcc51, hfr51⟩ := Kd.R_elem HO_0.out z25 (x1_1 : Int) p51 q51
            obtain rfl := k25_openM hM51
            have hx51_0 : World.cell? _ ⟨go51, (x1_1 : Int).toNat * 3, none⟩ = some (.string ((rd_T25 x0_1 x1_1).f0)) := hcc51 0 _ rfl
            have hx51_1 : World.cell? _ ⟨go51, (x1_1 : Int).toNat * 3 + 1, none⟩ = some (.int .u64 ((rd_T25 x0_1 x1_1).f1)) := hcc51 1 _ rfl
            have hx51_2 : World.cell? _ ⟨go51, (x1_1 : Int).toNat * 3 + 2, none⟩ = some (.int .u64 ((rd_T25 x0_1 x1_1).f2)) := hcc51 2 _ rfl
            have hf51_0 : World.frozen? _ ⟨go51, (x1_1 : Int).toNat * 3, none⟩ = false := hfr51 0
            have hf51_1 : World.frozen? _ ⟨go51, (x1_1 : Int).toNat * 3 + 1, none⟩ = false := hfr51 1
            have hf51_2 : World.frozen? _ ⟨go51, (x1_1 : Int).toNat * 3 + 2, none⟩ = false := hfr51 2
            clear hcl51 hcc51 hfr51 hM51
            replace p51 := eq_true p51
            replace q51 := eq_true q51
            obtain ⟨ce57, hcl57, hM57, hcc57, hfr57⟩ := Kd.R_elem HO_0.out z25 (x1_1 : Int) (of_decide_eq_true (by first | (with_reducible assumption) | assumption)) (by have h_ : (x1_1 : Int) < ((x0_1.length : Int) : Int) := of_decide_eq_true (by first | (with_reducible assumption) | assumption); first | exact h_ | (have e_ := (Kd.R_reads' HO_0.out).1; omega) | simpa using h_)
            obtain rfl := k25_openM hM57
            have HP57 := (Kd.R_seg HO_0.out (x1_1 : Int) (of_decide_eq_true (by first | (with_reducible assumption) | assumption)) (by have h_ : (x1_1 : Int) < ((x0_1.length : Int) : Int) := of_decide_eq_true (by first | (with_reducible assumption) | assumption); first | exact h_ | (have e_ := (Kd.R_reads' HO_0.out).1; omega) | simpa using h_) (seg := [.string ((rd_T25 x0_1 (ji41)).f0), .int .u64 ((rd_T25 x0_1 (ji41)).f1), .int .u64 ((rd_T25 x0_1 (ji41)).f2)]) (j := 0) hcl57 hcc57 (show 3 ≤ 3 from by decide) (x' := (⟨(rd_T25 x0_1 (ji41)).f0, (rd_T25 x0_1 (ji41)).f1, (rd_T25 x0_1 (ji41)).f2⟩ : S25)) (k25_mkM _ _ _ (⟨(rd_T25 x0_1 (ji41)).f0, (rd_T25 x0_1 (ji41)).f1, (rd_T25 x0_1 (ji41)).f2⟩ : S25) ) (fun _ hk => hk)).1
            rw [← Ny169.out] at HP57
            have HQ57 := Aside0.mk HP57
            clear hcl57 hcc57 hfr57 hM57 HP57
            have p52 : 0 ≤ ((ji41) : Int) := of_decide_eq_true (by first | (with_reducible assumption) | assumption)
            have q52 : ((ji41) : Int) < ((x0_1.length : Int) : Int) := of_decide_eq_true (by first | (with_reducible assumption) | assumption)
            obtain ⟨cy52, _, hMy52, hccy52, hfry52⟩ := Kd.R_elem HO_0.out z25 ((ji41) : Int) p52 q52
            obtain rfl := k25_openM hMy52
            have hz52_0 : World.cell? _ ⟨go51, ((ji41) : Int).toNat * 3, none⟩ = some _ := hccy52 0 _ rfl
            have hg52_0 : World.frozen? _ ⟨go51, ((ji41) : Int).toNat * 3, none⟩ = false := hfry52 0
            obtain ⟨vy52_0_0_0, hy52_0_0_0⟩ := cell?_setCell_some (p := ⟨go51, (x1_1 : Int).toNat * 3, none⟩) (x := .string ((rd_T25 x0_1 (ji41)).f0)) hz52_0
            obtain ⟨vy52_0_01_0, hy52_0_01_0⟩ := cell?_setCell_some (p := ⟨go51, (x1_1 : Int).toNat * 3, none⟩) (x := .string ((rd_T25 x0_1 (ji41)).f0)) hz52_0
            obtain ⟨vy52_0_01_1, hy52_0_01_1⟩ := cell?_setCell_some (p := ⟨go51, (x1_1 : Int).toNat * 3 + 1, none⟩) (x := .int .u64 ((rd_T25 x0_1 (ji41)).f1)) hy52_0_01_0
            obtain ⟨vy52_0_02_0, hy52_0_02_0⟩ := cell?_setCell_some (p := ⟨go51, (x1_1 : Int).toNat * 3, none⟩) (x := .string ((rd_T25 x0_1 (ji41)).f0)) hz52_0
            obtain ⟨vy52_0_02_2, hy52_0_02_2⟩ := cell?_setCell_some (p := ⟨go51, (x1_1 : Int).toNat * 3 + 2, none⟩) (x := .int .u64 ((rd_T25 x0_1 (ji41)).f2)) hy52_0_02_0
            obtain ⟨vy52_0_012_0, hy52_0_012_0⟩ := cell?_setCell_some (p := ⟨go51, (x1_1 : Int).toNat * 3, none⟩) (x := .string ((rd_T25 x0_1 (ji41)).f0)) hz52_0
            obtain ⟨vy52_0_012_1, hy52_0_012_1⟩ := cell?_setCell_some (p := ⟨go51, (x1_1 : Int).toNat * 3 + 1, none⟩) (x := .int .u64 ((rd_T25 x0_1 (ji41)).f1)) hy52_0_012_0
            obtain ⟨vy52_0_012_2, hy52_0_012_2⟩ := cell?_setCell_some (p := ⟨go51, (x1_1 : Int).toNat * 3 + 2, none⟩) (x := .int .u64 ((rd_T25 x0_1 (ji41)).f2)) hy52_0_012_1
            have hz52_1 : World.cell? _ ⟨go51, ((ji41) : Int).toNat * 3 + 1, none⟩ = some _ := hccy52 1 _ rfl
            have hg52_1 : World.frozen? _ ⟨go51, ((ji41) : Int).toNat * 3 + 1, none⟩ = false := hfry52 1
            obtain ⟨vy52_1_1_1, hy52_1_1_1⟩ := cell?_setCell_some (p := ⟨go51, (x1_1 : Int).toNat * 3 + 1, none⟩) (x := .int .u64 ((rd_T25 x0_1 (ji41)).f1)) hz52_1
            obtain ⟨vy52_1_01_0, hy52_1_01_0⟩ := cell?_setCell_some (p := ⟨go51, (x1_1 : Int).toNat * 3, none⟩) (x := .string ((rd_T25 x0_1 (ji41)).f0)) hz52_1
            obtain ⟨vy52_1_01_1, hy52_1_01_1⟩ := cell?_setCell_some (p := ⟨go51, (x1_1 : Int).toNat * 3 + 1, none⟩) (x := .int .u64 ((rd_T25 x0_1 (ji41)).f1)) hy52_1_01_0
            obtain ⟨vy52_1_12_1, hy52_1_12_1⟩ := cell?_setCell_some (p := ⟨go51, (x1_1 : Int).toNat * 3 + 1, none⟩) (x := .int .u64 ((rd_T25 x0_1 (ji41)).f1)) hz52_1
            obtain ⟨vy52_1_12_2, hy52_1_12_2⟩ := cell?_setCell_some (p := ⟨go51, (x1_1 : Int).toNat * 3 + 2, none⟩) (x := .int .u64 ((rd_T25 x0_1 (ji41)).f2)) hy52_1_12_1
            obtain ⟨vy52_1_012_0, hy52_1_012_0⟩ := cell?_setCell_some (p := ⟨go51, (x1_1 : Int).toNat * 3, none⟩) (x := .string ((rd_T25 x0_1 (ji41)).f0)) hz52_1
            obtain ⟨vy52_1_012_1, hy52_1_012_1⟩ := cell?_setCell_some (p := ⟨go51, (x1_1 : Int).toNat * 3 + 1, none⟩) (x := .int .u64 ((rd_T25 x0_1 (ji41)).f1)) hy52_1_012_0
            obtain ⟨vy52_1_012_2, hy52_1_012_2⟩ := cell?_setCell_some (p := ⟨go51, (x1_1 : Int).toNat * 3 + 2, none⟩) (x := .int .u64 ((rd_T25 x0_1 (ji41)).f2)) hy52_1_012_1
            have hz52_2 : World.cell? _ ⟨go51, ((ji41) : Int).toNat * 3 + 2, none⟩ = some _ := hccy52 2 _ rfl
            have hg52_2 : World.frozen? _ ⟨go51, ((ji41) : Int).toNat * 3 + 2, none⟩ = false := hfry52 2
            obtain ⟨vy52_2_2_2, hy52_2_2_2⟩ := cell?_setCell_some (p := ⟨go51, (x1_1 : Int).toNat * 3 + 2, none⟩) (x := .int .u64 ((rd_T25 x0_1 (ji41)).f2)) hz52_2
            obtain ⟨vy52_2_02_0, hy52_2_02_0⟩ := cell?_setCell_some (p := ⟨go51, (x1_1 : Int).toNat * 3, none⟩) (x := .string ((rd_T25 x0_1 (ji41)).f0)) hz52_2
            obtain ⟨vy52_2_02_2, hy52_2_02_2⟩ := cell?_setCell_some (p := ⟨go51, (x1_1 : Int).toNat * 3 + 2, none⟩) (x := .int .u64 ((rd_T25 x0_1 (ji41)).f2)) hy52_2_02_0
            obtain ⟨vy52_2_12_1, hy52_2_12_1⟩ := cell?_setCell_some (p := ⟨go51, (x1_1 : Int).toNat * 3 + 1, none⟩) (x := .int .u64 ((rd_T25 x0_1 (ji41)).f1)) hz52_2
            obtain ⟨vy52_2_12_2, hy52_2_12_2⟩ := cell?_setCell_some (p := ⟨go51, (x1_1 : Int).toNat * 3 + 2, none⟩) (x := .int .u64 ((rd_T25 x0_1 (ji41)).f2)) hy52_2_12_1
            obtain ⟨vy52_2_012_0, hy52_2_012_0⟩ := cell?_setCell_some (p := ⟨go51, (x1_1 : Int).toNat * 3, none⟩) (x := .string ((rd_T25 x0_1 (ji41)).f0)) hz52_2
            obtain ⟨vy52_2_012_1, hy52_2_012_1⟩ := cell?_setCell_some (p := ⟨go51, (x1_1 : Int).toNat * 3 + 1, none⟩) (x := .int .u64 ((rd_T25 x0_1 (ji41)).f1)) hy52_2_012_0
            obtain ⟨vy52_2_012_2, hy52_2_012_2⟩ := cell?_setCell_some (p := ⟨go51, (x1_1 : Int).toNat * 3 + 2, none⟩) (x := .int .u64 ((rd_T25 x0_1 (ji41)).f2)) hy52_2_012_1
            clear hccy52 hfry52 hMy52
            obtain ⟨ce52, hcl52, hM52, hcc52, hfr52⟩ := Kd.R_elem HQ57.out z25 ((ji41) : Int) p52 q52
            obtain rfl := k25_openM hM52
            have hx52_0 : World.cell? _ ⟨go51, ((ji41) : Int).toNat * 3, none⟩ = some (.string ((rd_T25 y169 (ji41)).f0)) := hcc52 0 _ rfl
            have hx52_1 : World.cell? _ ⟨go51, ((ji41) : Int).toNat * 3 + 1, none⟩ = some (.int .u64 ((rd_T25 y169 (ji41)).f1)) := hcc52 1 _ rfl
            have hx52_2 : World.cell? _ ⟨go51, ((ji41) : Int).toNat * 3 + 2, none⟩ = some (.int .u64 ((rd_T25 y169 (ji41)).f2)) := hcc52 2 _ rfl
            have hf52_0 : World.frozen? _ ⟨go51, ((ji41) : Int).toNat * 3, none⟩ = false := hfr52 0
            have hf52_1 : World.frozen? _ ⟨go51, ((ji41) : Int).toNat * 3 + 1, none⟩ = false := hfr52 1
            have hf52_2 : World.frozen? _ ⟨go51, ((ji41) : Int).toNat * 3 + 2, none⟩ = false := hfr52 2
            clear hcl52 hcc52 hfr52 hM52
            replace p52 := eq_true p52
            replace q52 := eq_true q52
            obtain ⟨ce58, hcl58, hM58, hcc58, hfr58⟩ := Kd.R_elem HQ57.out z25 ((ji41) : Int) (of_decide_eq_true (by first | (with_reducible assumption) | assumption)) (by have h_ : ((ji41) : Int) < ((x0_1.length : Int) : Int) := of_decide_eq_true (by first | (with_reducible assumption) | assumption); first | exact h_ | (have e_ := (Kd.R_reads' HO_0.out).1; omega) | simpa using h_)
            obtain rfl := k25_openM hM58
            have HP58 := (Kd.R_seg HQ57.out ((ji41) : Int) (of_decide_eq_true (by first | (with_reducible assumption) | assumption)) (by have h_ : ((ji41) : Int) < ((x0_1.length : Int) : Int) := of_decide_eq_true (by first | (with_reducible assumption) | assumption); first | exact h_ | (have e_ := (Kd.R_reads' HO_0.out).1; omega) | simpa using h_) (seg := [.string ((rd_T25 x0_1 x1_1).f0), .int .u64 ((rd_T25 x0_1 x1_1).f1), .int .u64 ((rd_T25 x0_1 x1_1).f2)]) (j := 0) hcl58 hcc58 (show 3 ≤ 3 from by decide) (x' := (⟨(rd_T25 x0_1 x1_1).f0, (rd_T25 x0_1 x1_1).f1, (rd_T25 x0_1 x1_1).f2⟩ : S25)) (k25_mkM _ _ _ (⟨(rd_T25 x0_1 x1_1).f0, (rd_T25 x0_1 x1_1).f1, (rd_T25 x0_1 x1_1).f2⟩ : S25) ) (fun _ hk => hk)).1
            rw [← Ny170.out] at HP58
            have HQ58 := Aside0.mk HP58
            clear hcl58 hcc58 hfr58 hM58 HP58
            refine start_ (n := 16) (S := fun w' => w'.cell? ⟨go51, ((ji41)).toNat * 3, none⟩ = some (.string ((rd_T25 x0_1 (ji41)).f0)) ∧ w'.cell? ⟨go51, ((ji41)).toNat * 3 + 1, none⟩ = some (.int .u64 ((rd_T25 x0_1 (ji41)).f1)) ∧ w'.cell? ⟨go51, ((ji41)).toNat * 3 + 2, none⟩ = some (.int .u64 ((rd_T25 x0_1 (ji41)).f2)) ∧ w'.cell? ⟨go51, ((x1_1).toNat * 3), none⟩ = some (.string ((rd_T25 x0_1 x1_1).f0)) ∧ w'.cell? ⟨go51, ((x1_1).toNat * 3) + 1, none⟩ = some (.int .u64 ((rd_T25 x0_1 x1_1).f1)) ∧ w'.cell? ⟨go51, ((x1_1).toNat * 3) + 2, none⟩ = some (.int .u64 ((rd_T25 x0_1 x1_1).f2))) (ds := [13, 15]) #[false, false, false, false, false, false, false, false, false, false, false, false, false, false, false, false] (by kernel_rfl) rfl rfl ⟨hx167_0, hx167_1, hx167_2, hx168_0, hx168_1, hx168_2⟩ (fun hHeld => ?_); refine with_tabW heap_sink.tab4 heap_sink.bits4 (fun HT_ HW_ => ?_)
            generalize w55.drew = w56 at HO_0 HK HB GG51 HQ57 HQ58 hf51_0 hf51_1 hf51_2 hf52_0 hf52_1 hf52_2 hx164_0 hx164_1 hx164_2 hx165_0 hx165_1 hx165_2 hx167_0 hx167_1 hx167_2 hx168_0 hx168_1 hx168_2 hx51_0 hx51_1 hx51_2 hx52_0 hx52_1 hx52_2 hHeld hz52_0 hg52_0 hy52_0_0_0 hy52_0_01_0 hy52_0_01_1 hy52_0_02_0 hy52_0_02_2 hy52_0_012_0 hy52_0_012_1 hy52_0_012_2 hz52_1 hg52_1 hy52_1_1_1 hy52_1_01_0 hy52_1_01_1 hy52_1_12_1 hy52_1_12_2 hy52_1_012_0 hy52_1_012_1 hy52_1_012_2 hz52_2 hg52_2 hy52_2_2_2 hy52_2_02_0 hy52_2_02_2 hy52_2_12_1 hy52_2_12_2 hy52_2_012_0 hy52_2_012_1 hy52_2_012_2 ⊢
            refine pure_ (i := 0) (N := some 44) (v := ?_) (a' := ?_) #[true, false, false, false, false, false, false, false, false, false, false, false, false, false, false, false] rfl rfl (any_of HT_.out (by kernel_rfl)) (fun _ _ _ h => h) (Or.inl ⟨by rfl, ?_⟩) ?_ ?_
            rotate_left
            ·
             intro w'
             go_simp
             with_reducible rfl
            rotate_left
            · exact bA
            refine pure_ (i := 1) (N := some 45) (v := ?_) (a' := ?_) #[true, true, false, false, false, false, false, false, false, false, false, false, false, false, false, false] rfl rfl (any_of HT_.out (by kernel_rfl)) (fun _ _ _ h => h) (Or.inl ⟨by rfl, ?_⟩) ?_ ?_
            rotate_left
            ·
             intro w'
             go_simp
             with_reducible rfl
            rotate_left
            · exact bA
            refine pure_ (i := 2) (N := some 46) (v := ?_) (a' := ?_) #[true, true, true, false, false, false, false, false, false, false, false, false, false, false, false, false] rfl rfl (any_of HT_.out (by kernel_rfl)) (fun _ _ _ h => h) (Or.inl ⟨by rfl, ?_⟩) ?_ ?_
            rotate_left
            ·
             intro w'
             go_simp
             with_reducible rfl
            rotate_left
            · exact bA
            refine pure_ (i := 3) (N := some 47) (v := ?_) (a' := ?_) #[true, true, true, true, false, false, false, false, false, false, false, false, false, false, false, false] rfl rfl (any_of HT_.out (by kernel_rfl)) (fun _ _ _ h => h) (Or.inl ⟨by rfl, ?_⟩) ?_ ?_
            rotate_left
            ·
             intro w'
             go_simp
             with_reducible rfl
            rotate_left
            · exact bA
            refine pure_ (i := 4) (N := some 48) (v := ?_) (a' := ?_) #[true, true, true, true, true, false, false, false, false, false, false, false, false, false, false, false] rfl rfl (any_of HT_.out (by kernel_rfl)) (fun _ _ _ h => h) (Or.inl ⟨by rfl, ?_⟩) ?_ ?_
            rotate_left
            ·
             intro w'
             go_simp
             with_reducible rfl
            rotate_left
            · exact bA
            refine pure_ (i := 5) (N := some 49) (v := ?_) (a' := ?_) #[true, true, true, true, true, true, false, false, false, false, false, false, false, false, false, false] rfl rfl (any_of HT_.out (by kernel_rfl)) (fun _ _ _ h => h) (Or.inl ⟨by rfl, ?_⟩) ?_ ?_
            rotate_left
            ·
             intro w'
             go_simp
             with_reducible rfl
            rotate_left
            · exact bA
            refine pure_ (i := 6) (N := some 50) (v := ?_) (a' := ?_) #[true, true, true, true, true, true, true, false, false, false, false, false, false, false, false, false] rfl rfl (any_of HT_.out (by kernel_rfl)) (fun _ _ _ h => h) (Or.inl ⟨by rfl, ?_⟩) ?_ ?_
            rotate_left
            ·
             intro w'
             go_simp
             with_reducible rfl
            rotate_left
            · exact bA
            refine pure_ (i := 8) (N := some 52) (v := ?_) (a' := ?_) #[true, true, true, true, true, true, true, false, true, false, false, false, false, false, false, false] rfl rfl (any_of HT_.out (by kernel_rfl)) (fun _ _ _ h => h) (Or.inl ⟨by rfl, ?_⟩) ?_ ?_
            rotate_left
            ·
             intro w'
             go_simp
             with_reducible rfl
            rotate_left
            · exact bA
            refine pure_ (i := 9) (N := some 53) (v := ?_) (a' := ?_) #[true, true, true, true, true, true, true, false, true, true, false, false, false, false, false, false] rfl rfl (any_of HT_.out (by kernel_rfl)) (fun _ _ _ h => h) (Or.inl ⟨by rfl, ?_⟩) ?_ ?_
            rotate_left
            ·
             intro w'
             go_simp
             with_reducible rfl
            rotate_left
            · exact bA
            refine pure_ (i := 10) (N := some 54) (v := ?_) (a' := ?_) #[true, true, true, true, true, true, true, false, true, true, true, false, false, false, false, false] rfl rfl (any_of HT_.out (by kernel_rfl)) (fun _ _ _ h => h) (Or.inl ⟨by rfl, ?_⟩) ?_ ?_
            rotate_left
            ·
             intro w'
             go_simp
             with_reducible rfl
            rotate_left
            · exact bA
            refine take_ (i := 7) (N := some 51) (v := ?_) (a' := ?_) #[true, true, true, true, true, true, true, true, true, true, true, false, false, false, false, false] rfl rfl (take_ofW HT_.out HW_.out (by kernel_rfl)) (fun _ _ _ h => h) (Or.inl ⟨by rfl, ?_⟩) hHeld ?_ ?_
            rotate_left
            ·
             rintro w' ⟨s0, s1, s2, s3, s4, s5⟩
             (try simp only [add_plain] at s0 s1 s2 s3 s4 s5)
             go_simp
             with_reducible rfl
            rotate_left
            · exact bA
            refine take_ (i := 11) (N := some 55) (v := ?_) (a' := ?_) #[true, true, true, true, true, true, true, true, true, true, true, true, false, false, false, false] rfl rfl (take_ofW HT_.out HW_.out (by kernel_rfl)) (fun _ _ _ h => h) (Or.inl ⟨by rfl, ?_⟩) hHeld ?_ ?_
            rotate_left
            ·
             rintro w' ⟨s0, s1, s2, s3, s4, s5⟩
             (try simp only [add_plain] at s0 s1 s2 s3 s4 s5)
             go_simp
             with_reducible rfl
            rotate_left
            · exact bA
            refine pure_ (i := 12) (N := some 56) (v := ?_) (a' := ?_) #[true, true, true, true, true, true, true, true, true, true, true, true, true, false, false, false] rfl rfl (any_of HT_.out (by kernel_rfl)) (fun _ _ _ h => h) (Or.inl ⟨by rfl, ?_⟩) ?_ ?_
            rotate_left
            ·
             intro w'
             go_simp
             with_reducible rfl
            rotate_left
            · exact bA
            refine last_ (i := 13) (N := none) #[true, true, true, true, true, true, true, true, true, true, true, true, true, true, false, false] rfl rfl (one_of HT_.out (by kernel_rfl)) (by decide) (fun K hK => ?_)
            refine skip_ (w1 := ?_) (by rfl) rfl ?_ ?_
            rotate_left
            ·
             go_simp
             rfl
            refine hK.out _ _ ?_
            clear hK K
            refine pure_ (i := 14) (N := some 57) (v := ?_) (a' := ?_) #[true, true, true, true, true, true, true, true, true, true, true, true, true, true, true, false] rfl rfl (any_of HT_.out (by kernel_rfl)) (fun _ _ _ h => h) (Or.inl ⟨by rfl, ?_⟩) ?_ ?_
            rotate_left
            ·
             intro w'
             go_simp
             with_reducible rfl
            rotate_left
            · exact bA
            refine last_ (i := 15) (N := none) #[true, true, true, true, true, true, true, true, true, true, true, true, true, true, true, true] rfl rfl (one_of HT_.out (by kernel_rfl)) (by decide) (fun K hK => ?_)
            refine skip_ (w1 := ?_) (by rfl) rfl ?_ ?_
            rotate_left
            ·
             go_simp
             rfl
            refine hK.out _ _ ?_
            clear hK K
            refine done_ (done_of HT_.out (by kernel_rfl)) ?_
            try go_wp2
            go_roundg kj2
            case measure => have := HK1.out; have := HJ2.out; omega
            case rel => exact ⟨(y170), ((ji41)), (by first | rfl | (simp; done) | (simp only [← hji41] <;> (first | rfl | simp)) | (simp [*]; done)), H', ⟨by have := HK1.out; have := HJ2.out; omega⟩, ⟨by (with_reducible repeat (first | apply Kd.R_alloc | apply Kd.R_drewN | apply Kd.R_drew)); exact HQ58.out⟩, ⟨by repeat (first | (with_reducible first | exact HK.out | apply Kept.alloc | apply Kept.drewN | apply Kept.drew | refine Kept.setCell ?_ HMgo51.out _ | refine Kept.setCell ?_ HMgo51.out _ | refine Kept.setCell ?_ HMgo51.out _ | refine Kept.setCell ?_ HMgo51.out _ | refine Kept.setCell ?_ HMgo51.out _ | refine Kept.setCell ?_ HMgo51.out _) | exact HK.out)⟩, ⟨by repeat (first | (with_reducible first | exact HB.out | apply below_alloc | apply pw_below_drewN | apply below_drew1 | refine below_set ?_ GB51.out | refine below_set ?_ GB51.out | refine below_set ?_ GB51.out | refine below_set ?_ GB51.out | refine below_set ?_ GB51.out | refine below_set ?_ GB51.out) | exact HB.out)⟩⟩
          ·
           rw [if_neg c45] at H
           exact absurd H (by simp)
         ·
          rw [if_neg c44] at H
          exact absurd H (by simp)
        ·
         rw [if_neg c43] at H
         exact absurd H (by simp)
       ·
        rw [if_neg c42] at H
        exact absurd H (by simp)
end Go.Proofs.Ytobdhjnaglikaaa.Q
