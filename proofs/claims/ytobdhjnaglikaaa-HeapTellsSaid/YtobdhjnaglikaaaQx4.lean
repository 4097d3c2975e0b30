import Derived.Test.YtobdhjnaglikaaaQx0
import Derived.Test.YtobdhjnaglikaaaQx2
namespace Go.Proofs.Ytobdhjnaglikaaa.Q
open Go.RowKit Go.Proofs.YtobdhjnaglikaaaW.PrintWords Go.Proofs.YtobdhjnaglikaaaW.PrintLast Go.Proofs.YtobdhjnaglikaaaW.PrintMore
attribute [local go_sem] max2_int min2_int max_two min_two max_three min_three max_four min_four
theorem setCell_drewN_YtobdhjnaglikaaaQx4 (w : World) (n : Nat) (p : Addr) (u : Value) : (w.drewN n).setCell p u = (w.setCell p u).drewN n := rfl
attribute [local go_sem] setCell_drewN_YtobdhjnaglikaaaQx4
set_option linter.unusedVariables false
set_option linter.unusedSimpArgs false
mutual
def heap_lift.l0 : Nat → List (S25) → Int → Int → Option (Bool × (List (S25)))
 | 0, _, _, _ => none
 | k + 1, x0, x1, x5 => if x1 > 0 then (if 0 ≤ x1 then (if x1 < (x0.length : Int) then ((heap_up.f x1).bind fun t130 => (if 0 ≤ t130 then (if t130 < (x0.length : Int) then ((rank_Cmp.f k ((rd_T25 x0 x1).f0) ((rd_T25 x0 x1).f1) ((rd_T25 x0 x1).f2) ((rd_T25 x0 t130).f0) ((rd_T25 x0 t130).f1) ((rd_T25 x0 t130).f2)).bind fun t132 => (heap_lift.j1 k x0 x1 x5 (decide (t132 > 0)))) else (none)) else (none))) else (none)) else (none)) else (heap_lift.j1 k x0 x1 x5 false)
def heap_lift.j1 : Nat → List (S25) → Int → Int → Bool → Option (Bool × (List (S25)))
 | 0, _, _, _, _ => none
 | k + 1, x0, x1, x5, x21 => if x21 = true then ((heap_up.f x1).bind fun t133 => ((heap_up.f x1).bind fun t134 => (if 0 ≤ t134 then (if t134 < (x0.length : Int) then (if 0 ≤ x1 then (if x1 < (x0.length : Int) then (if 0 ≤ t133 then (if t133 < (x0.length : Int) then ((heap_up.f x1).bind fun t139 => (heap_lift.l0 k ((x0.set (x1 : Int).toNat (⟨(rd_T25 x0 t134).f0, (rd_T25 x0 t134).f1, (rd_T25 x0 t134).f2⟩ : S25)).set (t133 : Int).toNat (⟨(rd_T25 x0 x1).f0, (rd_T25 x0 x1).f1, (rd_T25 x0 x1).f2⟩ : S25)) t139 x5)) else (none)) else (none)) else (none)) else (none)) else (none)) else (none)))) else (some ((x1 != x5), x0))
end
def heap_lift.f (k : Nat) (l0 : List (S25)) (a1 : Int) : Option (Bool × (List (S25))) := heap_lift.l0 k l0 a1 a1
theorem heap_lift.mono_l : ∀ k, (∀ y0 y1 y2, LeO (heap_lift.l0 k y0 y1 y2) (heap_lift.l0 (k + 1) y0 y1 y2)) ∧ (∀ y0 y1 y2 y3, LeO (heap_lift.j1 k y0 y1 y2 y3) (heap_lift.j1 (k + 1) y0 y1 y2 y3))
 | 0 => ⟨fun _ _ _ r h => by simp [heap_lift.l0] at h, fun _ _ _ _ r h => by simp [heap_lift.j1] at h⟩
 | k + 1 => by
  obtain ⟨ih0, ih1⟩ := heap_lift.mono_l k
  refine ⟨?_, ?_⟩
  ·
   intro y0 y1 y2
   unfold heap_lift.l0
   repeat' first
   | (with_reducible exact ih0 _ _ _)
   | (with_reducible exact ih1 _ _ _ _)
   | (with_reducible exact rank_Cmp.mono _ _ _ _ _ _ _)
   | (with_reducible exact LeO.refl _)
   | (with_reducible exact LeO.none _)
   | (with_reducible refine LeO.ite ?_ ?_)
   | (with_reducible refine LeO.bind ?_ (fun _ => ?_))
   | exact ih0 _ _ _
   | exact ih1 _ _ _ _
   | exact rank_Cmp.mono _ _ _ _ _ _ _
   | exact LeO.none _
   | refine LeO.ite ?_ ?_
   | refine LeO.bind ?_ (fun _ => ?_)
  ·
   intro y0 y1 y2 y3
   unfold heap_lift.j1
   repeat' first
   | (with_reducible exact ih0 _ _ _)
   | (with_reducible exact ih1 _ _ _ _)
   | (with_reducible exact rank_Cmp.mono _ _ _ _ _ _ _)
   | (with_reducible exact LeO.refl _)
   | (with_reducible exact LeO.none _)
   | (with_reducible refine LeO.ite ?_ ?_)
   | (with_reducible refine LeO.bind ?_ (fun _ => ?_))
   | exact ih0 _ _ _
   | exact ih1 _ _ _ _
   | exact rank_Cmp.mono _ _ _ _ _ _ _
   | exact LeO.none _
   | refine LeO.ite ?_ ?_
   | refine LeO.bind ?_ (fun _ => ?_)
theorem heap_lift.mono : ∀ a0 a1 k, LeO (heap_lift.f k a0 a1) (heap_lift.f (k + 1) a0 a1) := by
 intro a0 a1 k
 obtain ⟨ih0, ih1⟩ := heap_lift.mono_l k
 unfold heap_lift.f
 repeat' first
   | (with_reducible exact ih0 _ _ _)
   | (with_reducible exact ih1 _ _ _ _)
   | (with_reducible exact rank_Cmp.mono _ _ _ _ _ _ _)
   | (with_reducible exact LeO.refl _)
   | (with_reducible exact LeO.none _)
   | (with_reducible refine LeO.ite ?_ ?_)
   | (with_reducible refine LeO.bind ?_ (fun _ => ?_))
   | exact ih0 _ _ _
   | exact ih1 _ _ _ _
   | exact rank_Cmp.mono _ _ _ _ _ _ _
   | exact LeO.none _
   | refine LeO.ite ?_ ?_
   | refine LeO.bind ?_ (fun _ => ?_)
def heap_lift.T2 : Bool × List (List Nat × List Nat) := (true, [([], []), ([0], [0]), ([1], [1]), ([2], [2]), ([2], [2]), ([3, 4, 2], [2, 3, 4]), ([5, 2], [2, 5]), ([2], [2]), ([2], [2]), ([8, 2, 2], [2, 8]), ([7, 9, 2], [2, 7, 9]), ([10, 2], [2, 10]), ([6, 11, 9, 2], [2, 6, 11]), ([12, 2], [2, 12]), ([2, 13], [2, 13])])
def heap_lift.B2 : List Nat := [0, 1, 3, 7, 7, 31, 63, 7, 7, 263, 903, 1927, 4095, 8191, 16383]
theorem heap_lift.tab2 : rtab .any (opsOf Try.f28 2) = heap_lift.T2 := by kernel_rfl
theorem heap_lift.bits2 : waitsOk heap_lift.T2.2 heap_lift.B2 = true := by kernel_rfl
def heap_lift.T3 : Bool × List (List Nat × List Nat) := (true, [([], []), ([], []), ([], []), ([], []), ([3], [3]), ([], []), ([], []), ([6, 4], [6]), ([5, 7], [5, 7]), ([8], [8]), ([], []), ([], []), ([10, 11], [10, 11]), ([12], [12]), ([0, 1, 0, 1, 4, 5, 6, 7, 8, 9, 13], [0, 1]), ([14, 9, 7, 0, 1, 4, 5, 6, 7, 8, 9, 13], [9, 14]), ([2, 4, 0, 1, 2, 3, 4, 5, 6, 7, 8, 9, 10, 11, 12, 13, 14, 15], [2, 4]), ([16, 13, 15, 0, 1, 2, 3, 4, 5, 6, 7, 8, 9, 10, 11, 12, 13, 14, 15], [13, 16])])
def heap_lift.B3 : List Nat := [0, 0, 0, 0, 8, 0, 0, 88, 248, 504, 0, 0, 3072, 7168, 16379, 32763, 65535, 131071]
theorem heap_lift.tab3 : rtab .any (opsOf Try.f28 3) = heap_lift.T3 := by kernel_rfl
theorem heap_lift.bits3 : waitsOk heap_lift.T3.2 heap_lift.B3 = true := by kernel_rfl
set_option maxHeartbeats 8000000 in
set_option maxRecDepth 100000 in
theorem heap_lift.calls (k : Nat) (P0_ : Nat → Prop) (u9000_ : Value) (l0 : List (S25)) (a1 : Int) (r1 : Bool) (r2 : List (S25)) (w0 w : World) (hB : Below w0.heap.size w0 w) (ho0 : Kd.R k25 25 w w0.heap.size P0_ u9000_ l0) (h : heap_lift.f k l0 a1 = some (r1, r2)) :
  Calls Try.prog 28 #[u9000_, .int .i64 a1] w fun e w' => e = .returned (.bool r1) ∧ Kd.R k25 25 w' w0.heap.size (fun k_ => (P0_ k_ ∨ w.heap.size ≤ k_)) u9000_ r2 ∧ Below w0.heap.size w0 w' ∧ Kept w w' (fun k_ => P0_ k_) := by
 have hu25 := Try.underlying25
 have HO0 := Aside0.mk (show Kd.R k25 25 w w0.heap.size (fun k_ => (P0_ k_ ∨ w.heap.size ≤ k_)) u9000_ l0 from Kd.R_mono ho0 (fun k_ hk => (.inl hk)))
 have HK := Aside0.mk (Kept.refl w (fun k_ => P0_ k_))
 have HW0 := Aside0.mk hB.size
 have HB := Aside0.mk hB
 clear hB
 have H : (heap_lift.l0 k l0 a1 a1) = some (r1, r2) := h
 clear h
 have H' := Aside0.mk H
 clear H
 go_enter Try.func28, Try.ntmps28
 go_wp2
 go_loopg [1] k (fun kq v1 w' => ∃ (x0_1 : List (S25)) (x1_1 : Int), v1 = .int .i64 x1_1 ∧ Aside0 (heap_lift.l0 kq x0_1 x1_1 a1 = some (r1, r2)) ∧ Aside0 (kq ≤ k) ∧ Aside0 (Kd.R k25 25 w' w0.heap.size (fun k_ => (P0_ k_ ∨ w.heap.size ≤ k_)) u9000_ x0_1) ∧ Aside0 (Kept w w' (fun k_ => P0_ k_)) ∧ Aside0 (Below w0.heap.size w0 w'))
 case atStart => exact ⟨(l0), (a1), (by first | rfl | (simp; done) | (simp [*]; done)), H', ⟨Nat.le_refl _⟩, ⟨by (with_reducible repeat (first | apply Kd.R_alloc | apply Kd.R_drewN | apply Kd.R_drew)); exact HO0.out⟩, ⟨by repeat (first | (with_reducible first | exact HK.out | apply Kept.alloc | apply Kept.drewN | apply Kept.drew) | exact HK.out)⟩, ⟨by repeat (first | (with_reducible first | exact HB.out | apply below_alloc | apply pw_below_drewN | apply below_drew1) | exact HB.out)⟩⟩
 case round =>
  clear H'
  try clear c2
  try clear p2
  obtain ⟨x0_1, x1_1, rfl, HA, HK1, HO_0, HK, HB⟩ := hrel
  cases gk with
  | zero => exact absurd HA.out (by simp [heap_lift.l0])
  | succ k1 =>
   have H := HA.out
   clear HA
   simp only [heap_lift.l0] at H
   have HC3 := Aside0.mk H
   clear H
   go_upto_region 2 with (fail)
   go_cut [21] (fun v21 wc => ∃ (kq : Nat) (x21_2 : Bool), v21 = .bool x21_2 ∧ Aside0 (heap_lift.j1 kq x0_1 x1_1 a1 x21_2 = some (r1, r2)) ∧ Aside0 (kq ≤ k1) ∧ Aside0 (Kd.R k25 25 wc w0.heap.size (fun k_ => (P0_ k_ ∨ w.heap.size ≤ k_)) u9000_ x0_1) ∧ Aside0 (Kept w wc (fun k_ => P0_ k_)) ∧ Aside0 (Below w0.heap.size w0 wc))
   case first =>
    have H := HC3.out
    clear HC3
    by_cases c4 : x1_1 > 0
    ·
     rw [if_pos c4] at H
     have c4b0 : decide (0 < x1_1) = true := decide_eq_true c4
     clear c4
     (first | rw [c4b0] | (simp only [i64_w, i32_w]; rw [c4b0]) | skip)
     by_cases c5 : 0 ≤ x1_1
     ·
      rw [if_pos c5] at H
      have c5b0 : decide (0 ≤ x1_1) = true := decide_eq_true c5
      clear c5
      by_cases c6 : x1_1 < (x0_1.length : Int)
      ·
       rw [if_pos c6] at H
       have c6b0 : decide (x1_1 < (x0_1.length : Int)) = true := decide_eq_true c6
       clear c6
       replace H := Option.bind_eq_some_iff.mp H
       obtain ⟨t130, A70, H⟩ := H
       replace H : (if 0 ≤ t130 then (if t130 < (x0_1.length : Int) then ((rank_Cmp.f k1 ((rd_T25 x0_1 x1_1).f0) ((rd_T25 x0_1 x1_1).f1) ((rd_T25 x0_1 x1_1).f2) ((rd_T25 x0_1 t130).f0) ((rd_T25 x0_1 t130).f1) ((rd_T25 x0_1 t130).f2)).bind fun t132 => (heap_lift.j1 k1 x0_1 x1_1 a1 (decide (t132 > 0)))) else (none)) else (none)) = some (r1, r2) := H
       have A7 := Aside0.mk A70
       clear A70
       by_cases c8 : 0 ≤ t130
       ·
        rw [if_pos c8] at H
        have c8b0 : decide (0 ≤ t130) = true := decide_eq_true c8
        clear c8
        by_cases c9 : t130 < (x0_1.length : Int)
        ·
         rw [if_pos c9] at H
         have c9b0 : decide (t130 < (x0_1.length : Int)) = true := decide_eq_true c9
         clear c9
         replace H := Option.bind_eq_some_iff.mp H
         obtain ⟨t132, A100, H⟩ := H
         replace H : (heap_lift.j1 k1 x0_1 x1_1 a1 (decide (t132 > 0))) = some (r1, r2) := H
         have A10 := Aside0.mk A100
         clear A100
         have H' := Aside0.mk H
         clear H
         try go_wp2
         have n0_ := Aside0.mk (Kd.R_drew HO_0.out)
         have n1_ := Aside0.mk (Kept.drew HK.out)
         have n2_ := Aside0.mk (below_drew1 HB.out)
         clear HO_0 HK HB
         have HO_0 := n0_
         have HK := n1_
         have HB := n2_
         clear n0_ n1_ n2_
         obtain ⟨Ao12, co12, eo12⟩ := Kd.R_slice HO_0.out
         (first | subst eo12 | (injection eo12 with f1_ f2_ f3_; have f4_ := f1_.symm; have f5_ := f3_.symm; clear f1_ f2_ f3_; subst f4_; subst f5_))
         have p129 : 0 ≤ (x1_1 : Int) := of_decide_eq_true (by first | (with_reducible assumption) | assumption)
         have q129 : x1_1 < (x0_1.length : Int) := of_decide_eq_true (by first | (with_reducible assumption) | assumption)
         obtain ⟨ad129, e129, hx129_0, hx129_1, hx129_2⟩ := at_T25 (Kd.R_reads' HO_0.out).2.2 x1_1 p129 q129
         cases e129
         replace p129 := eq_true p129
         replace q129 := eq_true q129
         have p131 : 0 ≤ (t130 : Int) := of_decide_eq_true (by first | (with_reducible assumption) | assumption)
         have q131 : t130 < (x0_1.length : Int) := of_decide_eq_true (by first | (with_reducible assumption) | assumption)
         obtain ⟨ad131, e131, hx131_0, hx131_1, hx131_2⟩ := at_T25 (Kd.R_reads' HO_0.out).2.2 t130 p131 q131
         obtain rfl : ad129 = ad131 := (by injection e131)
         replace p131 := eq_true p131
         replace q131 := eq_true q131
         refine start_ (n := 15) (S := fun w' => w'.cell? (ad129.add ((x1_1).toNat * 3)) = some (.string ((rd_T25 x0_1 x1_1).f0)) ∧ w'.cell? ⟨(ad129.add ((x1_1).toNat * 3)).block, (ad129.add ((x1_1).toNat * 3)).off + 1, none⟩ = some (.int .u64 ((rd_T25 x0_1 x1_1).f1)) ∧ w'.cell? ⟨(ad129.add ((x1_1).toNat * 3)).block, (ad129.add ((x1_1).toNat * 3)).off + 2, none⟩ = some (.int .u64 ((rd_T25 x0_1 x1_1).f2)) ∧ w'.cell? (ad129.add ((t130).toNat * 3)) = some (.string ((rd_T25 x0_1 t130).f0)) ∧ w'.cell? ⟨(ad129.add ((t130).toNat * 3)).block, (ad129.add ((t130).toNat * 3)).off + 1, none⟩ = some (.int .u64 ((rd_T25 x0_1 t130).f1)) ∧ w'.cell? ⟨(ad129.add ((t130).toNat * 3)).block, (ad129.add ((t130).toNat * 3)).off + 2, none⟩ = some (.int .u64 ((rd_T25 x0_1 t130).f2))) (ds := []) #[false, false, false, false, false, false, false, false, false, false, false, false, false, false, false] (by kernel_rfl) rfl rfl ⟨hx129_0, hx129_1, hx129_2, hx131_0, hx131_1, hx131_2⟩ (fun hHeld => ?_); refine with_tabW heap_lift.tab2 heap_lift.bits2 (fun HT_ HW_ => ?_)
         generalize wr.drew = w11 at HO_0 HK HB hx129_0 hx129_1 hx129_2 hx131_0 hx131_1 hx131_2 hHeld ⊢
         refine pure_ (i := 0) (N := some 7) (v := ?_) (a' := ?_) #[true, false, false, false, false, false, false, false, false, false, false, false, false, false, false] rfl rfl (any_of HT_.out (by kernel_rfl)) (fun _ _ _ h => h) (Or.inl ⟨by rfl, ?_⟩) ?_ ?_
         rotate_left
         ·
          intro w'
          go_simp
          with_reducible rfl
         rotate_left
         · exact bA
         refine pure_ (i := 1) (N := some 8) (v := ?_) (a' := ?_) #[true, true, false, false, false, false, false, false, false, false, false, false, false, false, false] rfl rfl (any_of HT_.out (by kernel_rfl)) (fun _ _ _ h => h) (Or.inl ⟨by rfl, ?_⟩) ?_ ?_
         rotate_left
         ·
          intro w'
          go_simp
          with_reducible rfl
         rotate_left
         · exact bA
         refine pure_ (i := 2) (N := some 9) (v := ?_) (a' := ?_) #[true, true, true, false, false, false, false, false, false, false, false, false, false, false, false] rfl rfl (any_of HT_.out (by kernel_rfl)) (fun _ _ _ h => h) (Or.inl ⟨by rfl, ?_⟩) ?_ ?_
         rotate_left
         ·
          intro w'
          go_simp
          with_reducible rfl
         rotate_left
         · exact bA
         refine pure_ (i := 3) (N := some 10) (v := ?_) (a' := ?_) #[true, true, true, true, false, false, false, false, false, false, false, false, false, false, false] rfl rfl (any_of HT_.out (by kernel_rfl)) (fun _ _ _ h => h) (Or.inl ⟨by rfl, ?_⟩) ?_ ?_
         rotate_left
         ·
          intro w'
          go_simp
          with_reducible rfl
         rotate_left
         · exact bA
         refine pure_ (i := 4) (N := some 11) (v := ?_) (a' := ?_) #[true, true, true, true, true, false, false, false, false, false, false, false, false, false, false] rfl rfl (any_of HT_.out (by kernel_rfl)) (fun _ _ _ h => h) (Or.inl ⟨by rfl, ?_⟩) ?_ ?_
         rotate_left
         ·
          intro w'
          go_simp
          with_reducible rfl
         rotate_left
         · exact bA
         refine pure_ (i := 5) (N := some 12) (v := ?_) (a' := ?_) #[true, true, true, true, true, true, false, false, false, false, false, false, false, false, false] rfl rfl (any_of HT_.out (by kernel_rfl)) (fun _ _ _ h => h) (Or.inl ⟨by rfl, ?_⟩) ?_ ?_
         rotate_left
         ·
          intro w'
          go_simp
          with_reducible rfl
         rotate_left
         · exact bA
         refine pure_ (i := 7) (N := some 14) (v := ?_) (a' := ?_) #[true, true, true, true, true, true, false, true, false, false, false, false, false, false, false] rfl rfl (any_of HT_.out (by kernel_rfl)) (fun _ _ _ h => h) (Or.inl ⟨by rfl, ?_⟩) ?_ ?_
         rotate_left
         ·
          intro w'
          go_simp
          with_reducible rfl
         rotate_left
         · exact bA
         refine pure_ (i := 8) (N := some 15) (v := ?_) (a' := ?_) #[true, true, true, true, true, true, false, true, true, false, false, false, false, false, false] rfl rfl (any_of HT_.out (by kernel_rfl)) (fun _ _ _ h => h) (Or.inl ⟨by rfl, ?_⟩) ?_ ?_
         rotate_left
         ·
          intro w'
          go_simp
          with_reducible rfl
         rotate_left
         · exact bA
         refine take_ (i := 6) (N := some 13) (v := ?_) (a' := ?_) #[true, true, true, true, true, true, true, true, true, false, false, false, false, false, false] rfl rfl (take_ofW HT_.out HW_.out (by kernel_rfl)) (fun _ _ _ h => h) (Or.inl ⟨by rfl, ?_⟩) hHeld ?_ ?_
         rotate_left
         ·
          rintro w' ⟨s0, s1, s2, s3, s4, s5⟩
          (try simp only [add_plain] at s0 s1 s2 s3 s4 s5)
          go_simp
          with_reducible rfl
         rotate_left
         · exact bA
         refine one_ (i := 9) (N := some 16) #[true, true, true, true, true, true, true, true, true, true, false, false, false, false, false] rfl rfl (one_of HT_.out (by kernel_rfl)) (by decide) (fun K hK => ?_)
         refine goes_ Try.func33 (by kernel_rfl) rfl #[.int .i64 x1_1] (by rfl) rfl rfl (by (try simp only [List.map_toArray, List.map_cons, List.map_nil]); first | done | rfl | (simp only [List.length_drop, List.length_take]; rfl)) ?_
         with_reducible refine (heap_up.calls x1_1 t130 _ A7.out).mono ?_
         rintro e w' ⟨rfl, ⟨nd, rfl⟩⟩
         refine ⟨_, rfl, ?_⟩
         refine hK.out _ _ ⟨hHeld.1, hHeld.2.1, hHeld.2.2.1, hHeld.2.2.2.1, hHeld.2.2.2.2.1, hHeld.2.2.2.2.2⟩ (fun hHeld => ?_)
         clear hK K
         refine norm_ (a' := ?_) ?_ ?_
         rotate_left
         ·
          show Act.put _ (some 16) _ = _
          simp only [Act.put, List.setIfInBounds_toArray, List.set_cons_zero, List.set_cons_succ, i64_w, i32_w]
          rfl
         refine pure_ (i := 10) (N := some 17) (v := ?_) (a' := ?_) #[true, true, true, true, true, true, true, true, true, true, true, false, false, false, false] rfl rfl (any_of HT_.out (by kernel_rfl)) (fun _ _ _ h => h) (Or.inl ⟨by rfl, ?_⟩) ?_ ?_
         rotate_left
         ·
          intro w'
          go_simp
          with_reducible rfl
         rotate_left
         · exact bA
         refine take_ (i := 11) (N := some 18) (v := ?_) (a' := ?_) #[true, true, true, true, true, true, true, true, true, true, true, true, false, false, false] rfl rfl (take_ofW HT_.out HW_.out (by kernel_rfl)) (fun _ _ _ h => h) (Or.inl ⟨by rfl, ?_⟩) hHeld ?_ ?_
         rotate_left
         ·
          rintro w' ⟨s0, s1, s2, s3, s4, s5⟩
          (try simp only [add_plain] at s0 s1 s2 s3 s4 s5)
          go_simp
          with_reducible rfl
         rotate_left
         · exact bA
         refine one_ (i := 12) (N := some 19) #[true, true, true, true, true, true, true, true, true, true, true, true, true, false, false] rfl rfl (one_of HT_.out (by kernel_rfl)) (by decide) (fun K hK => ?_)
         refine goes_ Try.func23 (by kernel_rfl) rfl #[.agg #[.string ((rd_T25 x0_1 x1_1).f0), .int .u64 ((rd_T25 x0_1 x1_1).f1), .int .u64 ((rd_T25 x0_1 x1_1).f2)], .agg #[.string ((rd_T25 x0_1 t130).f0), .int .u64 ((rd_T25 x0_1 t130).f1), .int .u64 ((rd_T25 x0_1 t130).f2)]] (by rfl) rfl rfl (by (try simp only [List.map_toArray, List.map_cons, List.map_nil]); first | done | rfl | (simp only [List.length_drop, List.length_take]; rfl)) ?_
         with_reducible refine (rank_Cmp.calls k1 ((rd_T25 x0_1 x1_1).f0) ((rd_T25 x0_1 x1_1).f1) ((rd_T25 x0_1 x1_1).f2) ((rd_T25 x0_1 t130).f0) ((rd_T25 x0_1 t130).f1) ((rd_T25 x0_1 t130).f2) t132 _ A10.out).mono ?_
         rintro e w13 ⟨rfl, hb⟩
         have HS0_ := (hb.cell (World.block_lt_of_cell? _ _ (hHeld.1))).trans (hHeld.1)
         have HS1_ := (hb.cell (World.block_lt_of_cell? _ _ (hHeld.2.1))).trans (hHeld.2.1)
         have HS2_ := (hb.cell (World.block_lt_of_cell? _ _ (hHeld.2.2.1))).trans (hHeld.2.2.1)
         have HS3_ := (hb.cell (World.block_lt_of_cell? _ _ (hHeld.2.2.2.1))).trans (hHeld.2.2.2.1)
         have HS4_ := (hb.cell (World.block_lt_of_cell? _ _ (hHeld.2.2.2.2.1))).trans (hHeld.2.2.2.2.1)
         have HS5_ := (hb.cell (World.block_lt_of_cell? _ _ (hHeld.2.2.2.2.2))).trans (hHeld.2.2.2.2.2)
         refine ⟨_, rfl, ?_⟩
         have n0_ := Aside0.mk (Kd.R_below (by (with_reducible repeat (first | apply Kd.R_alloc | apply Kd.R_drewN | apply Kd.R_drew)); exact HO_0.out) hb)
         have n1_ := Aside0.mk (Kept.below (S := (fun k_ => P0_ k_)) (by repeat (first | (with_reducible first | exact HK.out | apply Kept.alloc | apply Kept.drewN | apply Kept.drew) | exact HK.out)) hb)
         have n2_ := Aside0.mk (below_step (bW HB.out) hb)
         clear HO_0 HK HB
         have HO_0 := n0_
         have HK := n1_
         have HB := n2_
         clear n0_ n1_ n2_
         (try clear hb)
         (try clear hb2)
         (try clear hk)
         (try clear hi)
         refine hK.out _ _ ⟨HS0_, HS1_, HS2_, HS3_, HS4_, HS5_⟩ (fun hHeld => ?_)
         clear hK K
         refine norm_ (a' := ?_) ?_ ?_
         rotate_left
         ·
          show Act.put _ (some 19) _ = _
          simp only [Act.put, List.setIfInBounds_toArray, List.set_cons_zero, List.set_cons_succ, i64_w, i32_w]
          rfl
         refine pure_ (i := 13) (N := some 20) (v := ?_) (a' := ?_) #[true, true, true, true, true, true, true, true, true, true, true, true, true, true, false] rfl rfl (any_of HT_.out (by kernel_rfl)) (fun _ _ _ h => h) (Or.inl ⟨by rfl, ?_⟩) ?_ ?_
         rotate_left
         ·
          intro w'
          go_simp
          with_reducible rfl
         rotate_left
         · exact bA
         refine pure_ (i := 14) (N := some 21) (v := ?_) (a' := ?_) #[true, true, true, true, true, true, true, true, true, true, true, true, true, true, true] rfl rfl (any_of HT_.out (by kernel_rfl)) (fun _ _ _ h => h) (Or.inl ⟨by rfl, ?_⟩) ?_ ?_
         rotate_left
         ·
          intro w'
          go_simp
          with_reducible rfl
         rotate_left
         · exact bA
         refine done_ (done_of HT_.out (by kernel_rfl)) ?_
         try go_wp2
         go_meet
         case rel => exact ⟨_, (decide (t132 > 0)), (by first | rfl | (simp; done) | (simp [*]; done)), H', ⟨by have := HK1.out; first | omega | exact Nat.le_refl _⟩, ⟨by (with_reducible repeat (first | apply Kd.R_alloc | apply Kd.R_drewN | apply Kd.R_drew)); exact HO_0.out⟩, ⟨by repeat (first | (with_reducible first | exact HK.out | apply Kept.alloc | apply Kept.drewN | apply Kept.drew) | exact HK.out)⟩, ⟨by repeat (first | (with_reducible first | exact HB.out | apply below_alloc | apply pw_below_drewN | apply below_drew1) | exact HB.out)⟩⟩
        ·
         rw [if_neg c9] at H
         exact absurd H (by simp)
       ·
        rw [if_neg c8] at H
        exact absurd H (by simp)
      ·
       rw [if_neg c6] at H
       exact absurd H (by simp)
     ·
      rw [if_neg c5] at H
      exact absurd H (by simp)
    ·
     rw [if_neg c4] at H
     have c4b0 : decide (0 < x1_1) = false := decide_eq_false c4
     clear c4
     (first | rw [c4b0] | (simp only [i64_w, i32_w]; rw [c4b0]) | skip)
     have H' := Aside0.mk H
     clear H
     try go_wp2
     have n0_ := Aside0.mk (Kd.R_drew HO_0.out)
     have n1_ := Aside0.mk (Kept.drew HK.out)
     have n2_ := Aside0.mk (below_drew1 HB.out)
     clear HO_0 HK HB
     have HO_0 := n0_
     have HK := n1_
     have HB := n2_
     clear n0_ n1_ n2_
     refine start_ (n := 15) (S := fun w' => True) (ds := []) #[false, false, false, false, false, false, false, false, false, false, false, false, false, false, false] (by kernel_rfl) rfl rfl trivial (fun hHeld => ?_); refine with_tabW heap_lift.tab2 heap_lift.bits2 (fun HT_ HW_ => ?_)
     generalize wr.drew = w14 at HO_0 HK HB hHeld ⊢
     refine pure_ (i := 0) (N := some 7) (v := ?_) (a' := ?_) #[true, false, false, false, false, false, false, false, false, false, false, false, false, false, false] rfl rfl (any_of HT_.out (by kernel_rfl)) (fun _ _ _ h => h) (Or.inl ⟨by rfl, ?_⟩) ?_ ?_
     rotate_left
     ·
      intro w'
      go_simp
      with_reducible rfl
     rotate_left
     · exact bA
     refine pure_ (i := 1) (N := some 8) (v := ?_) (a' := ?_) #[true, true, false, false, false, false, false, false, false, false, false, false, false, false, false] rfl rfl (any_of HT_.out (by kernel_rfl)) (fun _ _ _ h => h) (Or.inl ⟨by rfl, ?_⟩) ?_ ?_
     rotate_left
     ·
      intro w'
      go_simp
      with_reducible rfl
     rotate_left
     · exact bA
     refine pure_ (i := 2) (N := some 9) (v := ?_) (a' := ?_) #[true, true, true, false, false, false, false, false, false, false, false, false, false, false, false] rfl rfl (any_of HT_.out (by kernel_rfl)) (fun _ _ _ h => h) (Or.inl ⟨by rfl, ?_⟩) ?_ ?_
     rotate_left
     ·
      intro w'
      go_simp
      with_reducible rfl
     rotate_left
     · exact bA
     refine pure_ (i := 3) (N := some 10) (v := undef) (a' := ?_) #[true, true, true, true, false, false, false, false, false, false, false, false, false, false, false] rfl rfl (any_of HT_.out (by kernel_rfl)) (fun _ _ _ h => h) (Or.inr ⟨by rfl, rfl⟩) ?_ ?_
     rotate_left
     · exact bA
     refine pure_ (i := 4) (N := some 11) (v := undef) (a' := ?_) #[true, true, true, true, true, false, false, false, false, false, false, false, false, false, false] rfl rfl (any_of HT_.out (by kernel_rfl)) (fun _ _ _ h => h) (Or.inr ⟨by rfl, rfl⟩) ?_ ?_
     rotate_left
     · exact bA
     refine pure_ (i := 5) (N := some 12) (v := undef) (a' := ?_) #[true, true, true, true, true, true, false, false, false, false, false, false, false, false, false] rfl rfl (any_of HT_.out (by kernel_rfl)) (fun _ _ _ h => h) (Or.inr ⟨by rfl, rfl⟩) ?_ ?_
     rotate_left
     · exact bA
     refine pure_ (i := 6) (N := some 13) (v := undef) (a' := ?_) #[true, true, true, true, true, true, true, false, false, false, false, false, false, false, false] rfl rfl (any_of HT_.out (by kernel_rfl)) (fun _ _ _ h => h) (Or.inr ⟨by rfl, rfl⟩) ?_ ?_
     rotate_left
     · exact bA
     refine pure_ (i := 7) (N := some 14) (v := undef) (a' := ?_) #[true, true, true, true, true, true, true, true, false, false, false, false, false, false, false] rfl rfl (any_of HT_.out (by kernel_rfl)) (fun _ _ _ h => h) (Or.inr ⟨by rfl, rfl⟩) ?_ ?_
     rotate_left
     · exact bA
     refine pure_ (i := 8) (N := some 15) (v := undef) (a' := ?_) #[true, true, true, true, true, true, true, true, true, false, false, false, false, false, false] rfl rfl (any_of HT_.out (by kernel_rfl)) (fun _ _ _ h => h) (Or.inr ⟨by rfl, rfl⟩) ?_ ?_
     rotate_left
     · exact bA
     refine pure_ (i := 9) (N := some 16) (v := undef) (a' := ?_) #[true, true, true, true, true, true, true, true, true, true, false, false, false, false, false] rfl rfl (any_of HT_.out (by kernel_rfl)) (fun _ _ _ h => h) (Or.inr ⟨by rfl, rfl⟩) ?_ ?_
     rotate_left
     · exact bA
     refine pure_ (i := 10) (N := some 17) (v := undef) (a' := ?_) #[true, true, true, true, true, true, true, true, true, true, true, false, false, false, false] rfl rfl (any_of HT_.out (by kernel_rfl)) (fun _ _ _ h => h) (Or.inr ⟨by rfl, rfl⟩) ?_ ?_
     rotate_left
     · exact bA
     refine pure_ (i := 11) (N := some 18) (v := undef) (a' := ?_) #[true, true, true, true, true, true, true, true, true, true, true, true, false, false, false] rfl rfl (any_of HT_.out (by kernel_rfl)) (fun _ _ _ h => h) (Or.inr ⟨by rfl, rfl⟩) ?_ ?_
     rotate_left
     · exact bA
     refine pure_ (i := 12) (N := some 19) (v := undef) (a' := ?_) #[true, true, true, true, true, true, true, true, true, true, true, true, true, false, false] rfl rfl (any_of HT_.out (by kernel_rfl)) (fun _ _ _ h => h) (Or.inr ⟨by rfl, rfl⟩) ?_ ?_
     rotate_left
     · exact bA
     refine pure_ (i := 13) (N := some 20) (v := undef) (a' := ?_) #[true, true, true, true, true, true, true, true, true, true, true, true, true, true, false] rfl rfl (any_of HT_.out (by kernel_rfl)) (fun _ _ _ h => h) (Or.inr ⟨by rfl, rfl⟩) ?_ ?_
     rotate_left
     · exact bA
     refine pure_ (i := 14) (N := some 21) (v := ?_) (a' := ?_) #[true, true, true, true, true, true, true, true, true, true, true, true, true, true, true] rfl rfl (any_of HT_.out (by kernel_rfl)) (fun _ _ _ h => h) (Or.inl ⟨by rfl, ?_⟩) ?_ ?_
     rotate_left
     ·
      intro w'
      go_simp
      with_reducible rfl
     rotate_left
     · exact bA
     refine done_ (done_of HT_.out (by kernel_rfl)) ?_
     try go_wp2
     go_meet
     case rel => exact ⟨_, (false), (by first | rfl | (simp; done) | (simp [*]; done)), H', ⟨by have := HK1.out; first | omega | exact Nat.le_refl _⟩, ⟨by (with_reducible repeat (first | apply Kd.R_alloc | apply Kd.R_drewN | apply Kd.R_drew)); exact HO_0.out⟩, ⟨by repeat (first | (with_reducible first | exact HK.out | apply Kept.alloc | apply Kept.drewN | apply Kept.drew) | exact HK.out)⟩, ⟨by repeat (first | (with_reducible first | exact HB.out | apply below_alloc | apply pw_below_drewN | apply below_drew1) | exact HB.out)⟩⟩
   case rest =>
    clear HC3
    try clear p1
    try clear q1
    try clear hx1
    try clear c2
    try clear p2
    try clear c3
    try clear c4
    try clear c4b0
    try clear c5
    try clear c5b0
    try clear c6
    try clear c6b0
    try clear c8
    try clear c8b0
    try clear c9
    try clear c9b0
    try clear p12
    try clear q12
    try clear hx12
    try clear p13
    try clear q13
    try clear hx13
    try clear hx129_0
    try clear hx129_1
    try clear hx129_2
    try clear hx131_0
    try clear hx131_1
    try clear hx131_2
    try clear p129
    try clear p131
    try clear p2
    try clear q129
    try clear q131
    obtain ⟨kq, x21_2, rfl, HA, HJ2, HO_0, HK, HB⟩ := hcut
    cases kq with
    | zero => exact absurd HA.out (by simp [heap_lift.j1])
    | succ kj2 =>
     have H := HA.out
     clear HA
     simp only [heap_lift.j1] at H
     by_cases c15 : x21_2 = true
     ·
      subst c15
      have H1 : ((heap_up.f x1_1).bind fun t133 => ((heap_up.f x1_1).bind fun t134 => (if 0 ≤ t134 then (if t134 < (x0_1.length : Int) then (if 0 ≤ x1_1 then (if x1_1 < (x0_1.length : Int) then (if 0 ≤ t133 then (if t133 < (x0_1.length : Int) then ((heap_up.f x1_1).bind fun t139 => (heap_lift.l0 kj2 ((x0_1.set (x1_1 : Int).toNat (⟨(rd_T25 x0_1 t134).f0, (rd_T25 x0_1 t134).f1, (rd_T25 x0_1 t134).f2⟩ : S25)).set (t133 : Int).toNat (⟨(rd_T25 x0_1 x1_1).f0, (rd_T25 x0_1 x1_1).f1, (rd_T25 x0_1 x1_1).f2⟩ : S25)) t139 a1)) else (none)) else (none)) else (none)) else (none)) else (none)) else (none)))) = some (r1, r2) := by rw [if_pos rfl] at H; exact H
      clear H
      have H := H1
      clear H1
      replace H := Option.bind_eq_some_iff.mp H
      obtain ⟨t133, A160, H⟩ := H
      replace H : ((heap_up.f x1_1).bind fun t134 => (if 0 ≤ t134 then (if t134 < (x0_1.length : Int) then (if 0 ≤ x1_1 then (if x1_1 < (x0_1.length : Int) then (if 0 ≤ t133 then (if t133 < (x0_1.length : Int) then ((heap_up.f x1_1).bind fun t139 => (heap_lift.l0 kj2 ((x0_1.set (x1_1 : Int).toNat (⟨(rd_T25 x0_1 t134).f0, (rd_T25 x0_1 t134).f1, (rd_T25 x0_1 t134).f2⟩ : S25)).set (t133 : Int).toNat (⟨(rd_T25 x0_1 x1_1).f0, (rd_T25 x0_1 x1_1).f1, (rd_T25 x0_1 x1_1).f2⟩ : S25)) t139 a1)) else (none)) else (none)) else (none)) else (none)) else (none)) else (none))) = some (r1, r2) := H
      have A16 := Aside0.mk A160
      clear A160
      replace H := Option.bind_eq_some_iff.mp H
      obtain ⟨t134, A170, H⟩ := H
      replace H : (if 0 ≤ t134 then (if t134 < (x0_1.length : Int) then (if 0 ≤ x1_1 then (if x1_1 < (x0_1.length : Int) then (if 0 ≤ t133 then (if t133 < (x0_1.length : Int) then ((heap_up.f x1_1).bind fun t139 => (heap_lift.l0 kj2 ((x0_1.set (x1_1 : Int).toNat (⟨(rd_T25 x0_1 t134).f0, (rd_T25 x0_1 t134).f1, (rd_T25 x0_1 t134).f2⟩ : S25)).set (t133 : Int).toNat (⟨(rd_T25 x0_1 x1_1).f0, (rd_T25 x0_1 x1_1).f1, (rd_T25 x0_1 x1_1).f2⟩ : S25)) t139 a1)) else (none)) else (none)) else (none)) else (none)) else (none)) else (none)) = some (r1, r2) := H
      have A17 := Aside0.mk A170
      clear A170
      by_cases c18 : 0 ≤ t134
      ·
       rw [if_pos c18] at H
       have c18b0 : decide (0 ≤ t134) = true := decide_eq_true c18
       clear c18
       by_cases c19 : t134 < (x0_1.length : Int)
       ·
        rw [if_pos c19] at H
        have c19b0 : decide (t134 < (x0_1.length : Int)) = true := decide_eq_true c19
        clear c19
        by_cases c20 : 0 ≤ x1_1
        ·
         rw [if_pos c20] at H
         have c20b0 : decide (0 ≤ x1_1) = true := decide_eq_true c20
         clear c20
         by_cases c21 : x1_1 < (x0_1.length : Int)
         ·
          rw [if_pos c21] at H
          have c21b0 : decide (x1_1 < (x0_1.length : Int)) = true := decide_eq_true c21
          clear c21
          obtain ⟨y137, hy137⟩ : ∃ y_ : List (S25), y_ = (x0_1.set (x1_1 : Int).toNat (⟨(rd_T25 x0_1 t134).f0, (rd_T25 x0_1 t134).f1, (rd_T25 x0_1 t134).f2⟩ : S25)) := ⟨_, rfl⟩
          replace H : (if 0 ≤ t133 then (if t133 < (x0_1.length : Int) then ((heap_up.f x1_1).bind fun t139 => (heap_lift.l0 kj2 (y137.set (t133 : Int).toNat (⟨(rd_T25 x0_1 x1_1).f0, (rd_T25 x0_1 x1_1).f1, (rd_T25 x0_1 x1_1).f2⟩ : S25)) t139 a1)) else (none)) else (none)) = some (r1, r2) := by first | (rw [hy137]; with_reducible exact H) | (have H2_ := (Option.bind_some _ _).symm.trans H; rw [hy137]; with_reducible exact H2_) | (have H2_ := (Option.bind_some _ _).symm.trans H; with_reducible exact H2_) | with_reducible exact H | (rw [hy137]; exact H) | exact H
          have Ny137 := Aside0.mk hy137
          clear hy137
          by_cases c23 : 0 ≤ t133
          ·
           rw [if_pos c23] at H
           have c23b0 : decide (0 ≤ t133) = true := decide_eq_true c23
           clear c23
           by_cases c24 : t133 < (x0_1.length : Int)
           ·
            rw [if_pos c24] at H
            have c24b0 : decide (t133 < (x0_1.length : Int)) = true := decide_eq_true c24
            clear c24
            obtain ⟨y138, hy138⟩ : ∃ y_ : List (S25), y_ = (y137.set (t133 : Int).toNat (⟨(rd_T25 x0_1 x1_1).f0, (rd_T25 x0_1 x1_1).f1, (rd_T25 x0_1 x1_1).f2⟩ : S25)) := ⟨_, rfl⟩
            replace H : ((heap_up.f x1_1).bind fun t139 => (heap_lift.l0 kj2 y138 t139 a1)) = some (r1, r2) := by first | (rw [hy138]; with_reducible exact H) | (have H2_ := (Option.bind_some _ _).symm.trans H; rw [hy138]; with_reducible exact H2_) | (have H2_ := (Option.bind_some _ _).symm.trans H; with_reducible exact H2_) | with_reducible exact H | (rw [hy138]; exact H) | exact H
            have Ny138 := Aside0.mk hy138
            clear hy138
            replace H := Option.bind_eq_some_iff.mp H
            obtain ⟨t139, A260, H⟩ := H
            replace H : (heap_lift.l0 kj2 y138 t139 a1) = some (r1, r2) := H
            have A26 := Aside0.mk A260
            clear A260
            have H' := Aside0.mk H
            clear H
            try go_wp2
            have n0_ := Aside0.mk (Kd.R_drew HO_0.out)
            have n1_ := Aside0.mk (Kept.drew HK.out)
            have n2_ := Aside0.mk (below_drew1 HB.out)
            clear HO_0 HK HB
            have HO_0 := n0_
            have HK := n1_
            have HB := n2_
            clear n0_ n1_ n2_
            obtain ⟨Ao28, co28, eo28⟩ := Kd.R_slice HO_0.out
            (first | subst eo28 | (injection eo28 with f1_ f2_ f3_; have f4_ := f1_.symm; have f5_ := f3_.symm; clear f1_ f2_ f3_; subst f4_; subst f5_))
            have p136 : 0 ≤ (x1_1 : Int) := of_decide_eq_true (by first | (with_reducible assumption) | assumption)
            have q136 : x1_1 < (x0_1.length : Int) := of_decide_eq_true (by first | (with_reducible assumption) | assumption)
            obtain ⟨ad136, e136, hx136_0, hx136_1, hx136_2⟩ := at_T25 (Kd.R_reads' HO_0.out).2.2 x1_1 p136 q136
            cases e136
            replace p136 := eq_true p136
            replace q136 := eq_true q136
            have p135 : 0 ≤ (t134 : Int) := of_decide_eq_true (by first | (with_reducible assumption) | assumption)
            have q135 : t134 < (x0_1.length : Int) := of_decide_eq_true (by first | (with_reducible assumption) | assumption)
            obtain ⟨ad135, e135, hx135_0, hx135_1, hx135_2⟩ := at_T25 (Kd.R_reads' HO_0.out).2.2 t134 p135 q135
            obtain rfl : ad136 = ad135 := (by injection e135)
            replace p135 := eq_true p135
            replace q135 := eq_true q135
            refine start_ (n := 18) (S := fun w' => w'.cell? (ad136.add ((x1_1).toNat * 3)) = some (.string ((rd_T25 x0_1 x1_1).f0)) ∧ w'.cell? ⟨(ad136.add ((x1_1).toNat * 3)).block, (ad136.add ((x1_1).toNat * 3)).off + 1, none⟩ = some (.int .u64 ((rd_T25 x0_1 x1_1).f1)) ∧ w'.cell? ⟨(ad136.add ((x1_1).toNat * 3)).block, (ad136.add ((x1_1).toNat * 3)).off + 2, none⟩ = some (.int .u64 ((rd_T25 x0_1 x1_1).f2)) ∧ w'.cell? (ad136.add ((t134).toNat * 3)) = some (.string ((rd_T25 x0_1 t134).f0)) ∧ w'.cell? ⟨(ad136.add ((t134).toNat * 3)).block, (ad136.add ((t134).toNat * 3)).off + 1, none⟩ = some (.int .u64 ((rd_T25 x0_1 t134).f1)) ∧ w'.cell? ⟨(ad136.add ((t134).toNat * 3)).block, (ad136.add ((t134).toNat * 3)).off + 2, none⟩ = some (.int .u64 ((rd_T25 x0_1 t134).f2))) (ds := [15, 17]) #[false, false, false, false, false, false, false, false, false, false, false, false, false, false, false, false, false, false] (by kernel_rfl) rfl rfl ⟨hx136_0, hx136_1, hx136_2, hx135_0, hx135_1, hx135_2⟩ (fun hHeld => ?_); refine with_tabW heap_lift.tab3 heap_lift.bits3 (fun HT_ HW_ => ?_)
            generalize wc.drew = w27 at HO_0 HK HB hx135_0 hx135_1 hx135_2 hx136_0 hx136_1 hx136_2 hHeld ⊢
            refine pure_ (i := 0) (N := some 22) (v := ?_) (a' := ?_) #[true, false, false, false, false, false, false, false, false, false, false, false, false, false, false, false, false, false] rfl rfl (any_of HT_.out (by kernel_rfl)) (fun _ _ _ h => h) (Or.inl ⟨by rfl, ?_⟩) ?_ ?_
            rotate_left
            ·
             intro w'
             go_simp
             with_reducible rfl
            rotate_left
            · exact bA
            refine pure_ (i := 1) (N := some 23) (v := ?_) (a' := ?_) #[true, true, false, false, false, false, false, false, false, false, false, false, false, false, false, false, false, false] rfl rfl (any_of HT_.out (by kernel_rfl)) (fun _ _ _ h => h) (Or.inl ⟨by rfl, ?_⟩) ?_ ?_
            rotate_left
            ·
             intro w'
             go_simp
             with_reducible rfl
            rotate_left
            · exact bA
            refine pure_ (i := 2) (N := some 24) (v := ?_) (a' := ?_) #[true, true, true, false, false, false, false, false, false, false, false, false, false, false, false, false, false, false] rfl rfl (any_of HT_.out (by kernel_rfl)) (fun _ _ _ h => h) (Or.inl ⟨by rfl, ?_⟩) ?_ ?_
            rotate_left
            ·
             intro w'
             go_simp
             with_reducible rfl
            rotate_left
            · exact bA
            refine pure_ (i := 3) (N := some 25) (v := ?_) (a' := ?_) #[true, true, true, true, false, false, false, false, false, false, false, false, false, false, false, false, false, false] rfl rfl (any_of HT_.out (by kernel_rfl)) (fun _ _ _ h => h) (Or.inl ⟨by rfl, ?_⟩) ?_ ?_
            rotate_left
            ·
             intro w'
             go_simp
             with_reducible rfl
            rotate_left
            · exact bA
            refine pure_ (i := 5) (N := some 27) (v := ?_) (a' := ?_) #[true, true, true, true, false, true, false, false, false, false, false, false, false, false, false, false, false, false] rfl rfl (any_of HT_.out (by kernel_rfl)) (fun _ _ _ h => h) (Or.inl ⟨by rfl, ?_⟩) ?_ ?_
            rotate_left
            ·
             intro w'
             go_simp
             with_reducible rfl
            rotate_left
            · exact bA
            refine pure_ (i := 6) (N := some 28) (v := ?_) (a' := ?_) #[true, true, true, true, false, true, true, false, false, false, false, false, false, false, false, false, false, false] rfl rfl (any_of HT_.out (by kernel_rfl)) (fun _ _ _ h => h) (Or.inl ⟨by rfl, ?_⟩) ?_ ?_
            rotate_left
            ·
             intro w'
             go_simp
             with_reducible rfl
            rotate_left
            · exact bA
            refine pure_ (i := 10) (N := some 32) (v := ?_) (a' := ?_) #[true, true, true, true, false, true, true, false, false, false, true, false, false, false, false, false, false, false] rfl rfl (any_of HT_.out (by kernel_rfl)) (fun _ _ _ h => h) (Or.inl ⟨by rfl, ?_⟩) ?_ ?_
            rotate_left
            ·
             intro w'
             go_simp
             with_reducible rfl
            rotate_left
            · exact bA
            refine pure_ (i := 11) (N := some 33) (v := ?_) (a' := ?_) #[true, true, true, true, false, true, true, false, false, false, true, true, false, false, false, false, false, false] rfl rfl (any_of HT_.out (by kernel_rfl)) (fun _ _ _ h => h) (Or.inl ⟨by rfl, ?_⟩) ?_ ?_
            rotate_left
            ·
             intro w'
             go_simp
             with_reducible rfl
            rotate_left
            · exact bA
            refine pure_ (i := 12) (N := some 34) (v := ?_) (a' := ?_) #[true, true, true, true, false, true, true, false, false, false, true, true, true, false, false, false, false, false] rfl rfl (any_of HT_.out (by kernel_rfl)) (fun _ _ _ h => h) (Or.inl ⟨by rfl, ?_⟩) ?_ ?_
            rotate_left
            ·
             intro w'
             go_simp
             with_reducible rfl
            rotate_left
            · exact bA
            refine take_ (i := 13) (N := some 35) (v := ?_) (a' := ?_) #[true, true, true, true, false, true, true, false, false, false, true, true, true, true, false, false, false, false] rfl rfl (take_ofW HT_.out HW_.out (by kernel_rfl)) (fun _ _ _ h => h) (Or.inl ⟨by rfl, ?_⟩) hHeld ?_ ?_
            rotate_left
            ·
             rintro w' ⟨s0, s1, s2, s3, s4, s5⟩
             (try simp only [add_plain] at s0 s1 s2 s3 s4 s5)
             go_simp
             with_reducible rfl
            rotate_left
            · exact bA
            refine one_ (i := 4) (N := some 26) #[true, true, true, true, true, true, true, false, false, false, true, true, true, true, false, false, false, false] rfl rfl (one_of HT_.out (by kernel_rfl)) (by decide) (fun K hK => ?_)
            refine goes_ Try.func33 (by kernel_rfl) rfl #[.int .i64 x1_1] (by rfl) rfl rfl (by (try simp only [List.map_toArray, List.map_cons, List.map_nil]); first | done | rfl | (simp only [List.length_drop, List.length_take]; rfl)) ?_
            with_reducible refine (heap_up.calls x1_1 t133 _ A16.out).mono ?_
            rintro e w' ⟨rfl, ⟨nd, rfl⟩⟩
            refine ⟨_, rfl, ?_⟩
            refine hK.out _ _ ⟨hHeld.1, hHeld.2.1, hHeld.2.2.1, hHeld.2.2.2.1, hHeld.2.2.2.2.1, hHeld.2.2.2.2.2⟩ (fun hHeld => ?_)
            clear hK K
            refine norm_ (a' := ?_) ?_ ?_
            rotate_left
            ·
             show Act.put _ (some 26) _ = _
             simp only [Act.put, List.setIfInBounds_toArray, List.set_cons_zero, List.set_cons_succ, i64_w, i32_w]
             rfl
            refine one_ (i := 7) (N := some 29) #[true, true, true, true, true, true, true, true, false, false, true, true, true, true, false, false, false, false] rfl rfl (one_of HT_.out (by kernel_rfl)) (by decide) (fun K hK => ?_)
            refine goes_ Try.func33 (by kernel_rfl) rfl #[.int .i64 x1_1] (by rfl) rfl rfl (by (try simp only [List.map_toArray, List.map_cons, List.map_nil]); first | done | rfl | (simp only [List.length_drop, List.length_take]; rfl)) ?_
            with_reducible refine (heap_up.calls x1_1 t134 _ A17.out).mono ?_
            rintro e w' ⟨rfl, ⟨nd, rfl⟩⟩
            refine ⟨_, rfl, ?_⟩
            have p22 : 0 ≤ (x1_1 : Int) := of_decide_eq_true (by first | (with_reducible assumption) | assumption)
            have q22 : (x1_1 : Int) < ((x0_1.length : Int) : Int) := of_decide_eq_true (by first | (with_reducible assumption) | assumption)
            obtain ⟨go22, co22, eo22, gb22, gl22, cl22, HG22⟩ := Kd.R_form HO_0.out (by omega)
            (first | cases eo22 | (injection eo22 with ea_ en_ ec_; (first | subst ea_ | (injection ea_ with ea_; subst ea_)); subst ec_; clear en_))
            have GB22 := Aside0.mk gb22
            have GG22 := Aside0.mk HG22
            clear gb22 gl22 HG22
            have HMgo22 := Aside0.mk (show (P0_ go22 ∨ w.heap.size ≤ go22) from (HO_0.out.1 _ rfl))
            (first | simp only [add_plain] at hx136_0 | skip)
            (first | simp only [add_plain] at hx136_1 | skip)
            (first | simp only [add_plain] at hx136_2 | skip)
            (first | simp only [add_plain] at hx135_0 | skip)
            (first | simp only [add_plain] at hx135_1 | skip)
            (first | simp only [add_plain] at hx135_2 | skip)
            obtain ⟨ce22, hcl22, hM22, hcc22, hfr22⟩ := Kd.R_elem HO_0.out z25 (x1_1 : Int) p22 q22
            obtain rfl := k25_openM hM22
            have hx22_0 : World.cell? _ ⟨go22, (x1_1 : Int).toNat * 3, none⟩ = some (.string ((rd_T25 x0_1 x1_1).f0)) := hcc22 0 _ rfl
            have hx22_1 : World.cell? _ ⟨go22, (x1_1 : Int).toNat * 3 + 1, none⟩ = some (.int .u64 ((rd_T25 x0_1 x1_1).f1)) := hcc22 1 _ rfl
            have hx22_2 : World.cell? _ ⟨go22, (x1_1 : Int).toNat * 3 + 2, none⟩ = some (.int .u64 ((rd_T25 x0_1 x1_1).f2)) := hcc22 2 _ rfl
            have hf22_0 : World.frozen? _ ⟨go22, (x1_1 : Int).toNat * 3, none⟩ = false := hfr22 0
            have hf22_1 : World.frozen? _ ⟨go22, (x1_1 : Int).toNat * 3 + 1, none⟩ = false := hfr22 1
            have hf22_2 : World.frozen? _ ⟨go22, (x1_1 : Int).toNat * 3 + 2, none⟩ = false := hfr22 2
            clear hcl22 hcc22 hfr22 hM22
            replace p22 := eq_true p22
            replace q22 := eq_true q22
            obtain ⟨ce29, hcl29, hM29, hcc29, hfr29⟩ := Kd.R_elem HO_0.out z25 (x1_1 : Int) (of_decide_eq_true (by first | (with_reducible assumption) | assumption)) (by have h_ : (x1_1 : Int) < ((x0_1.length : Int) : Int) := of_decide_eq_true (by first | (with_reducible assumption) | assumption); first | exact h_ | (have e_ := (Kd.R_reads' HO_0.out).1; omega) | simpa using h_)
            obtain rfl := k25_openM hM29
            have HP29 := (Kd.R_seg HO_0.out (x1_1 : Int) (of_decide_eq_true (by first | (with_reducible assumption) | assumption)) (by have h_ : (x1_1 : Int) < ((x0_1.length : Int) : Int) := of_decide_eq_true (by first | (with_reducible assumption) | assumption); first | exact h_ | (have e_ := (Kd.R_reads' HO_0.out).1; omega) | simpa using h_) (seg := [.string ((rd_T25 x0_1 t134).f0), .int .u64 ((rd_T25 x0_1 t134).f1), .int .u64 ((rd_T25 x0_1 t134).f2)]) (j := 0) hcl29 hcc29 (show 3 ≤ 3 from by decide) (x' := (⟨(rd_T25 x0_1 t134).f0, (rd_T25 x0_1 t134).f1, (rd_T25 x0_1 t134).f2⟩ : S25)) (k25_mkM _ _ _ (⟨(rd_T25 x0_1 t134).f0, (rd_T25 x0_1 t134).f1, (rd_T25 x0_1 t134).f2⟩ : S25) ) (fun _ hk => hk)).1
            rw [← Ny137.out] at HP29
            have HQ29 := Aside0.mk HP29
            clear hcl29 hcc29 hfr29 hM29 HP29
            have p25 : 0 ≤ (t133 : Int) := of_decide_eq_true (by first | (with_reducible assumption) | assumption)
            have q25 : (t133 : Int) < ((x0_1.length : Int) : Int) := of_decide_eq_true (by first | (with_reducible assumption) | assumption)
            obtain ⟨cy25, _, hMy25, hccy25, hfry25⟩ := Kd.R_elem HO_0.out z25 (t133 : Int) p25 q25
            obtain rfl := k25_openM hMy25
            have hz25_0 : World.cell? _ ⟨go22, (t133 : Int).toNat * 3, none⟩ = some _ := hccy25 0 _ rfl
            have hg25_0 : World.frozen? _ ⟨go22, (t133 : Int).toNat * 3, none⟩ = false := hfry25 0
            obtain ⟨vy25_0_0_0, hy25_0_0_0⟩ := cell?_setCell_some (p := ⟨go22, (x1_1 : Int).toNat * 3, none⟩) (x := .string ((rd_T25 x0_1 t134).f0)) hz25_0
            obtain ⟨vy25_0_01_0, hy25_0_01_0⟩ := cell?_setCell_some (p := ⟨go22, (x1_1 : Int).toNat * 3, none⟩) (x := .string ((rd_T25 x0_1 t134).f0)) hz25_0
            obtain ⟨vy25_0_01_1, hy25_0_01_1⟩ := cell?_setCell_some (p := ⟨go22, (x1_1 : Int).toNat * 3 + 1, none⟩) (x := .int .u64 ((rd_T25 x0_1 t134).f1)) hy25_0_01_0
            obtain ⟨vy25_0_02_0, hy25_0_02_0⟩ := cell?_setCell_some (p := ⟨go22, (x1_1 : Int).toNat * 3, none⟩) (x := .string ((rd_T25 x0_1 t134).f0)) hz25_0
            obtain ⟨vy25_0_02_2, hy25_0_02_2⟩ := cell?_setCell_some (p := ⟨go22, (x1_1 : Int).toNat * 3 + 2, none⟩) (x := .int .u64 ((rd_T25 x0_1 t134).f2)) hy25_0_02_0
            obtain ⟨vy25_0_012_0, hy25_0_012_0⟩ := cell?_setCell_some (p := ⟨go22, (x1_1 : Int).toNat * 3, none⟩) (x := .string ((rd_T25 x0_1 t134).f0)) hz25_0
            obtain ⟨vy25_0_012_1, hy25_0_012_1⟩ := cell?_setCell_some (p := ⟨go22, (x1_1 : Int).toNat * 3 + 1, none⟩) (x := .int .u64 ((rd_T25 x0_1 t134).f1)) hy25_0_012_0
            obtain ⟨vy25_0_012_2, hy25_0_012_2⟩ := cell?_setCell_some (p := ⟨go22, (x1_1 : Int).toNat * 3 + 2, none⟩) (x := .int .u64 ((rd_T25 x0_1 t134).f2)) hy25_0_012_1
            have hz25_1 : World.cell? _ ⟨go22, (t133 : Int).toNat * 3 + 1, none⟩ = some _ := hccy25 1 _ rfl
            have hg25_1 : World.frozen? _ ⟨go22, (t133 : Int).toNat * 3 + 1, none⟩ = false := hfry25 1
            obtain ⟨vy25_1_1_1, hy25_1_1_1⟩ := cell?_setCell_some (p := ⟨go22, (x1_1 : Int).toNat * 3 + 1, none⟩) (x := .int .u64 ((rd_T25 x0_1 t134).f1)) hz25_1
            obtain ⟨vy25_1_01_0, hy25_1_01_0⟩ := cell?_setCell_some (p := ⟨go22, (x1_1 : Int).toNat * 3, none⟩) (x := .string ((rd_T25 x0_1 t134).f0)) hz25_1
            obtain ⟨vy25_1_01_1, hy25_1_01_1⟩ := cell?_setCell_some (p := ⟨go22, (x1_1 : Int).toNat * 3 + 1, none⟩) (x := .int .u64 ((rd_T25 x0_1 t134).f1)) hy25_1_01_0
            obtain ⟨vy25_1_12_1, hy25_1_12_1⟩ := cell?_setCell_some (p := ⟨go22, (x1_1 : Int).toNat * 3 + 1, none⟩) (x := .int .u64 ((rd_T25 x0_1 t134).f1)) hz25_1
            obtain ⟨vy25_1_12_2, hy25_1_12_2⟩ := cell?_setCell_some (p := ⟨go22, (x1_1 : Int).toNat * 3 + 2, none⟩) (x := .int .u64 ((rd_T25 x0_1 t134).f2)) hy25_1_12_1
            obtain ⟨vy25_1_012_0, hy25_1_012_0⟩ := cell?_setCell_some (p := ⟨go22, (x1_1 : Int).toNat * 3, none⟩) (x := .string ((rd_T25 x0_1 t134).f0)) hz25_1
            obtain ⟨vy25_1_012_1, hy25_1_012_1⟩ := cell?_setCell_some (p := ⟨go22, (x1_1 : Int).toNat * 3 + 1, none⟩) (x := .int .u64 ((rd_T25 x0_1 t134).f1)) hy25_1_012_0
            obtain ⟨vy25_1_012_2, hy25_1_012_2⟩ := cell?_setCell_some (p := ⟨go22, (x1_1 : Int).toNat * 3 + 2, none⟩) (x := .int .u64 ((rd_T25 x0_1 t134).f2)) hy25_1_012_1
            have hz25_2 : World.cell? _ ⟨go22, (t133 : Int).toNat * 3 + 2, none⟩ = some _ := hccy25 2 _ rfl
            have hg25_2 : World.frozen? _ ⟨go22, (t133 : Int).toNat * 3 + 2, none⟩ = false := hfry25 2
            obtain ⟨vy25_2_2_2, hy25_2_2_2⟩ := cell?_setCell_some (p := ⟨go22, (x1_1 : Int).toNat * 3 + 2, none⟩) (x := .int .u64 ((rd_T25 x0_1 t134).f2)) hz25_2
            obtain ⟨vy25_2_02_0, hy25_2_02_0⟩ := cell?_setCell_some (p := ⟨go22, (x1_1 : Int).toNat * 3, none⟩) (x := .string ((rd_T25 x0_1 t134).f0)) hz25_2
            obtain ⟨vy25_2_02_2, hy25_2_02_2⟩ := cell?_setCell_some (p := ⟨go22, (x1_1 : Int).toNat * 3 + 2, none⟩) (x := .int .u64 ((rd_T25 x0_1 t134).f2)) hy25_2_02_0
            obtain ⟨vy25_2_12_1, hy25_2_12_1⟩ := cell?_setCell_some (p := ⟨go22, (x1_1 : Int).toNat * 3 + 1, none⟩) (x := .int .u64 ((rd_T25 x0_1 t134).f1)) hz25_2
            obtain ⟨vy25_2_12_2, hy25_2_12_2⟩ := cell?_setCell_some (p := ⟨go22, (x1_1 : Int).toNat * 3 + 2, none⟩) (x := .int .u64 ((rd_T25 x0_1 t134).f2)) hy25_2_12_1
            obtain ⟨vy25_2_012_0, hy25_2_012_0⟩ := cell?_setCell_some (p := ⟨go22, (x1_1 : Int).toNat * 3, none⟩) (x := .string ((rd_T25 x0_1 t134).f0)) hz25_2
            obtain ⟨vy25_2_012_1, hy25_2_012_1⟩ := cell?_setCell_some (p := ⟨go22, (x1_1 : Int).toNat * 3 + 1, none⟩) (x := .int .u64 ((rd_T25 x0_1 t134).f1)) hy25_2_012_0
            obtain ⟨vy25_2_012_2, hy25_2_012_2⟩ := cell?_setCell_some (p := ⟨go22, (x1_1 : Int).toNat * 3 + 2, none⟩) (x := .int .u64 ((rd_T25 x0_1 t134).f2)) hy25_2_012_1
            clear hccy25 hfry25 hMy25
            obtain ⟨ce25, hcl25, hM25, hcc25, hfr25⟩ := Kd.R_elem HQ29.out z25 (t133 : Int) p25 q25
            obtain rfl := k25_openM hM25
            have hx25_0 : World.cell? _ ⟨go22, (t133 : Int).toNat * 3, none⟩ = some (.string ((rd_T25 y137 t133).f0)) := hcc25 0 _ rfl
            have hx25_1 : World.cell? _ ⟨go22, (t133 : Int).toNat * 3 + 1, none⟩ = some (.int .u64 ((rd_T25 y137 t133).f1)) := hcc25 1 _ rfl
            have hx25_2 : World.cell? _ ⟨go22, (t133 : Int).toNat * 3 + 2, none⟩ = some (.int .u64 ((rd_T25 y137 t133).f2)) := hcc25 2 _ rfl
            have hf25_0 : World.frozen? _ ⟨go22, (t133 : Int).toNat * 3, none⟩ = false := hfr25 0
            have hf25_1 : World.frozen? _ ⟨go22, (t133 : Int).toNat * 3 + 1, none⟩ = false := hfr25 1
            have hf25_2 : World.frozen? _ ⟨go22, (t133 : Int).toNat * 3 + 2, none⟩ = false := hfr25 2
            clear hcl25 hcc25 hfr25 hM25
            replace p25 := eq_true p25
            replace q25 := eq_true q25
            obtain ⟨ce30, hcl30, hM30, hcc30, hfr30⟩ := Kd.R_elem HQ29.out z25 (t133 : Int) (of_decide_eq_true (by first | (with_reducible assumption) | assumption)) (by have h_ : (t133 : Int) < ((x0_1.length : Int) : Int) := of_decide_eq_true (by first | (with_reducible assumption) | assumption); first | exact h_ | (have e_ := (Kd.R_reads' HO_0.out).1; omega) | simpa using h_)
            obtain rfl := k25_openM hM30
            have HP30 := (Kd.R_seg HQ29.out (t133 : Int) (of_decide_eq_true (by first | (with_reducible assumption) | assumption)) (by have h_ : (t133 : Int) < ((x0_1.length : Int) : Int) := of_decide_eq_true (by first | (with_reducible assumption) | assumption); first | exact h_ | (have e_ := (Kd.R_reads' HO_0.out).1; omega) | simpa using h_) (seg := [.string ((rd_T25 x0_1 x1_1).f0), .int .u64 ((rd_T25 x0_1 x1_1).f1), .int .u64 ((rd_T25 x0_1 x1_1).f2)]) (j := 0) hcl30 hcc30 (show 3 ≤ 3 from by decide) (x' := (⟨(rd_T25 x0_1 x1_1).f0, (rd_T25 x0_1 x1_1).f1, (rd_T25 x0_1 x1_1).f2⟩ : S25)) (k25_mkM _ _ _ (⟨(rd_T25 x0_1 x1_1).f0, (rd_T25 x0_1 x1_1).f1, (rd_T25 x0_1 x1_1).f2⟩ : S25) ) (fun _ hk => hk)).1
            rw [← Ny138.out] at HP30
            have HQ30 := Aside0.mk HP30
            clear hcl30 hcc30 hfr30 hM30 HP30
            refine hK.out _ _ ⟨hHeld.1, hHeld.2.1, hHeld.2.2.1, hHeld.2.2.2.1, hHeld.2.2.2.2.1, hHeld.2.2.2.2.2⟩ (fun hHeld => ?_)
            clear hK K
            refine norm_ (a' := ?_) ?_ ?_
            rotate_left
            ·
             show Act.put _ (some 29) _ = _
             simp only [Act.put, List.setIfInBounds_toArray, List.set_cons_zero, List.set_cons_succ, i64_w, i32_w]
             rfl
            refine pure_ (i := 8) (N := some 30) (v := ?_) (a' := ?_) #[true, true, true, true, true, true, true, true, true, false, true, true, true, true, false, false, false, false] rfl rfl (any_of HT_.out (by kernel_rfl)) (fun _ _ _ h => h) (Or.inl ⟨by rfl, ?_⟩) ?_ ?_
            rotate_left
            ·
             intro w'
             go_simp
             with_reducible rfl
            rotate_left
            · exact bA
            refine take_ (i := 9) (N := some 31) (v := ?_) (a' := ?_) #[true, true, true, true, true, true, true, true, true, true, true, true, true, true, false, false, false, false] rfl rfl (take_ofW HT_.out HW_.out (by kernel_rfl)) (fun _ _ _ h => h) (Or.inl ⟨by rfl, ?_⟩) hHeld ?_ ?_
            rotate_left
            ·
             rintro w' ⟨s0, s1, s2, s3, s4, s5⟩
             (try simp only [add_plain] at s0 s1 s2 s3 s4 s5)
             go_simp
             with_reducible rfl
            rotate_left
            · exact bA
            refine pure_ (i := 14) (N := some 36) (v := ?_) (a' := ?_) #[true, true, true, true, true, true, true, true, true, true, true, true, true, true, true, false, false, false] rfl rfl (any_of HT_.out (by kernel_rfl)) (fun _ _ _ h => h) (Or.inl ⟨by rfl, ?_⟩) ?_ ?_
            rotate_left
            ·
             intro w'
             go_simp
             with_reducible rfl
            rotate_left
            · exact bA
            refine last_ (i := 15) (N := none) #[true, true, true, true, true, true, true, true, true, true, true, true, true, true, true, true, false, false] rfl rfl (one_of HT_.out (by kernel_rfl)) (by decide) (fun K hK => ?_)
            refine skip_ (w1 := ?_) (by rfl) rfl ?_ ?_
            rotate_left
            ·
             go_simp
             rfl
            refine hK.out _ _ ?_
            clear hK K
            refine pure_ (i := 16) (N := some 37) (v := ?_) (a' := ?_) #[true, true, true, true, true, true, true, true, true, true, true, true, true, true, true, true, true, false] rfl rfl (any_of HT_.out (by kernel_rfl)) (fun _ _ _ h => h) (Or.inl ⟨by rfl, ?_⟩) ?_ ?_
            rotate_left
            ·
             intro w'
             go_simp
             with_reducible rfl
            rotate_left
            · exact bA
            refine last_ (i := 17) (N := none) #[true, true, true, true, true, true, true, true, true, true, true, true, true, true, true, true, true, true] rfl rfl (one_of HT_.out (by kernel_rfl)) (by decide) (fun K hK => ?_)
            refine skip_ (w1 := ?_) (by rfl) rfl ?_ ?_
            rotate_left
            ·
             go_simp
             rfl
            refine hK.out _ _ ?_
            clear hK K
            refine done_ (done_of HT_.out (by kernel_rfl)) ?_
            try go_wp2_with (first | ((with_reducible refine gate_callee (f := 33) rfl ?_); refine goesL_ (some 39) rfl rfl Try.func33 (by kernel_rfl) rfl #[.int .i64 x1_1] rfl (by (try simp only [List.map_toArray, List.map_cons, List.map_nil]); first | done | rfl | (simp only [List.length_drop, List.length_take]; rfl)) ?_; (with_reducible refine (heap_up.calls x1_1 t139 _ A26.out).mono ?_); rintro e w' ⟨rfl, ⟨nd, rfl⟩⟩; refine ⟨_, rfl, ?_⟩))
            go_roundg kj2
            case measure => have := HK1.out; have := HJ2.out; omega
            case rel => exact ⟨(y138), (t139), (by first | rfl | (simp; done) | (simp [*]; done)), H', ⟨by have := HK1.out; have := HJ2.out; omega⟩, ⟨by (with_reducible repeat (first | apply Kd.R_alloc | apply Kd.R_drewN | apply Kd.R_drew)); exact HQ30.out⟩, ⟨by repeat (first | (with_reducible first | exact HK.out | apply Kept.alloc | apply Kept.drewN | apply Kept.drew | refine Kept.setCell ?_ HMgo22.out _ | refine Kept.setCell ?_ HMgo22.out _ | refine Kept.setCell ?_ HMgo22.out _ | refine Kept.setCell ?_ HMgo22.out _ | refine Kept.setCell ?_ HMgo22.out _ | refine Kept.setCell ?_ HMgo22.out _) | exact HK.out)⟩, ⟨by repeat (first | (with_reducible first | exact HB.out | apply below_alloc | apply pw_below_drewN | apply below_drew1 | refine below_set ?_ GB22.out | refine below_set ?_ GB22.out | refine below_set ?_ GB22.out | refine below_set ?_ GB22.out | refine below_set ?_ GB22.out | refine below_set ?_ GB22.out) | exact HB.out)⟩⟩
           ·
            rw [if_neg c24] at H
            exact absurd H (by simp)
          ·
           rw [if_neg c23] at H
           exact absurd H (by simp)
         ·
          rw [if_neg c21] at H
          exact absurd H (by simp)
        ·
         rw [if_neg c20] at H
         exact absurd H (by simp)
       ·
        rw [if_neg c19] at H
        exact absurd H (by simp)
      ·
       rw [if_neg c18] at H
       exact absurd H (by simp)
     ·
      replace c15 := Bool.eq_false_iff.mpr c15
      subst c15
      have H1 : (some ((x1_1 != a1), x0_1)) = some (r1, r2) := by rw [if_neg (show ¬ (false = true) by decide)] at H; exact H
      clear H
      have H := H1
      clear H1
      simp only [Option.some.injEq, Prod.mk.injEq] at H
      obtain ⟨rfl, rfl⟩ := H
      go_wp2
      go_ret
      exact ⟨by first | rfl | (simp [errW_none, errW_some] <;> rfl) | (simp [*, errW_none, errW_some] <;> rfl), by (with_reducible repeat (first | apply Kd.R_alloc | apply Kd.R_drewN | apply Kd.R_drew)); exact HO_0.out, by repeat (first | (with_reducible first | exact HB.out | apply below_alloc | apply pw_below_drewN | apply below_drew1) | exact HB.out), by repeat (first | (with_reducible first | exact HK.out | apply Kept.alloc | apply Kept.drewN | apply Kept.drew) | exact HK.out)⟩
end Go.Proofs.Ytobdhjnaglikaaa.Q
