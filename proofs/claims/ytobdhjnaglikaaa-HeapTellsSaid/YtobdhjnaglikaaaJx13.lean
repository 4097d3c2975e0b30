import Derived.Test.YtobdhjnaglikaaaQx0
import Derived.Test.YtobdhjnaglikaaaJx10
import Derived.Test.YtobdhjnaglikaaaJx12
namespace Go.Proofs.Ytobdhjnaglikaaa.Q
open Go.RowKit Go.Proofs.YtobdhjnaglikaaaW.PrintWords Go.Proofs.YtobdhjnaglikaaaW.PrintLast Go.Proofs.YtobdhjnaglikaaaW.PrintMore
attribute [local go_sem] max2_int min2_int max_two min_two max_three min_three max_four min_four
theorem setCell_drewN_YtobdhjnaglikaaaJx13 (w : World) (n : Nat) (p : Addr) (u : Value) : (w.drewN n).setCell p u = (w.setCell p u).drewN n := rfl
attribute [local go_sem] setCell_drewN_YtobdhjnaglikaaaJx13
set_option linter.unusedVariables false
set_option linter.unusedSimpArgs false
mutual
def samphireref11_Sink.j0 : Nat → List (S25) → Int → Int → Bool → Option ((List (S25)))
 | 0, _, _, _, _ => none
 | k + 1, x0, x1, x5, x31 => if x31 = true then (samphireref11_Sink.j1 k x0 x1 (wrap64 (x5 + 1))) else (samphireref11_Sink.j1 k x0 x1 x5)
def samphireref11_Sink.j1 : Nat → List (S25) → Int → Int → Option ((List (S25)))
 | 0, _, _, _ => none
 | k + 1, x0, x1, x5 => if 0 ≤ x1 then (if x1 < (x0.length : Int) then (if 0 ≤ x5 then (if x5 < (x0.length : Int) then ((samphireref10_Cmp.f ((rd_T25 x0 x1).f0) ((rd_T25 x0 x1).f1) ((rd_T25 x0 x1).f2) ((rd_T25 x0 x5).f0) ((rd_T25 x0 x5).f1) ((rd_T25 x0 x5).f2)).bind fun t296 => (if t296 ≥ 0 then (some x0) else ((samphireref11_swap.f x0 x1 x5).bind fun t297 => ((samphireref11_Sink.f k t297 x5).bind fun t300 => (some t300))))) else (none)) else (none)) else (none)) else (none)
def samphireref11_Sink.f : Nat → List (S25) → Int → Option ((List (S25)))
 | 0, _, _ => none
 | k + 1, l0, a1 => if (wrap64 ((wrap64 (2 * a1)) + 1)) ≥ (l0.length : Int) then (some l0) else (if (wrap64 ((wrap64 ((wrap64 (2 * a1)) + 1)) + 1)) < (l0.length : Int) then (if 0 ≤ (wrap64 ((wrap64 (2 * a1)) + 1)) then (if (wrap64 ((wrap64 (2 * a1)) + 1)) < (l0.length : Int) then (if 0 ≤ (wrap64 ((wrap64 ((wrap64 (2 * a1)) + 1)) + 1)) then ((samphireref10_Cmp.f ((rd_T25 l0 (wrap64 ((wrap64 (2 * a1)) + 1))).f0) ((rd_T25 l0 (wrap64 ((wrap64 (2 * a1)) + 1))).f1) ((rd_T25 l0 (wrap64 ((wrap64 (2 * a1)) + 1))).f2) ((rd_T25 l0 (wrap64 ((wrap64 ((wrap64 (2 * a1)) + 1)) + 1))).f0) ((rd_T25 l0 (wrap64 ((wrap64 ((wrap64 (2 * a1)) + 1)) + 1))).f1) ((rd_T25 l0 (wrap64 ((wrap64 ((wrap64 (2 * a1)) + 1)) + 1))).f2)).bind fun t293 => (samphireref11_Sink.j0 k l0 a1 (wrap64 ((wrap64 (2 * a1)) + 1)) (decide (t293 < 0)))) else (none)) else (none)) else (none)) else (samphireref11_Sink.j0 k l0 a1 (wrap64 ((wrap64 (2 * a1)) + 1)) false))
end
def samphireref11_Sink.T4 : Bool × List (List Nat × List Nat) := (true, [([], []), ([0], [0]), ([], []), ([2], [2]), ([1, 3], [1, 3]), ([4], [4]), ([5], [5]), ([5], [5]), ([6, 7, 5], [5, 6, 7]), ([8, 5], [5, 8]), ([5], [5]), ([5], [5]), ([11, 5], [5, 11]), ([10, 12, 5], [5, 10, 12]), ([13, 5], [5, 13]), ([9, 14, 5, 5], [5, 9, 14]), ([15, 5], [5, 15]), ([5, 16], [5, 16])])
def samphireref11_Sink.B4 : List Nat := [0, 1, 0, 4, 15, 31, 63, 63, 255, 511, 63, 63, 2111, 7231, 15423, 32767, 65535, 131071]
theorem samphireref11_Sink.tab4 : rtab .any (opsOf Try.f36 4) = samphireref11_Sink.T4 := by kernel_rfl
theorem samphireref11_Sink.bits4 : waitsOk samphireref11_Sink.T4.2 samphireref11_Sink.B4 = true := by kernel_rfl
def samphireref11_Sink.T6 : Bool × List (List Nat × List Nat) := (true, [([], []), ([], []), ([0, 1], [0, 1]), ([2], [2]), ([], []), ([], []), ([4, 5], [4, 5]), ([6], [6]), ([3, 7], [3, 7]), ([8], [8])])
def samphireref11_Sink.B6 : List Nat := [0, 0, 3, 7, 0, 0, 48, 112, 255, 511]
theorem samphireref11_Sink.tab6 : rtab .any (opsOf Try.f36 6) = samphireref11_Sink.T6 := by kernel_rfl
theorem samphireref11_Sink.bits6 : waitsOk samphireref11_Sink.T6.2 samphireref11_Sink.B6 = true := by kernel_rfl
set_option maxHeartbeats 8000000 in
set_option maxRecDepth 100000 in
theorem samphireref11_Sink.calls (k : Nat) : ∀ (P0_ : Nat → Prop) (A0 : Option Addr) (c0 : Nat) (l0 : List (S25)) (a1 : Int) (r : List (S25)) (w : World) (hs0 : Kd.V k25 25 w w.heap.size (fun k_ => P0_ k_) (.slice A0 l0.length c0) l0) (h : samphireref11_Sink.f k l0 a1 = some r),
  Calls Try.prog 36 #[.slice A0 l0.length c0, .int .i64 a1] w fun e w' => ∃ v0_ : Value, e = .returned (v0_) ∧ Kd.V k25 25 w' w.heap.size (fun k_ => (P0_ k_ ∨ w.heap.size ≤ k_)) v0_ r ∧ Below w.heap.size w w' := by
 induction k using Nat.strongRecOn with
 | _ k ih =>
 intro P0_ A0 c0 l0 a1 r w hs0 h
 cases k with
 | zero => exact absurd h (by simp [samphireref11_Sink.f])
 | succ k =>
 simp only [samphireref11_Sink.f] at h
 have hu25 := Try.underlying25
 have HO0 := Aside0.mk (show Kd.V k25 25 w w.heap.size (fun k_ => (P0_ k_ ∨ w.heap.size ≤ k_)) (.slice A0 l0.length c0) l0 from Kd.V_mono hs0 (fun k_ hk => .inl hk))
 have HB := Aside0.mk (Below.refl w.heap.size w)
 have H : (if (wrap64 ((wrap64 (2 * a1)) + 1)) ≥ (l0.length : Int) then (some l0) else (if (wrap64 ((wrap64 ((wrap64 (2 * a1)) + 1)) + 1)) < (l0.length : Int) then (if 0 ≤ (wrap64 ((wrap64 (2 * a1)) + 1)) then (if (wrap64 ((wrap64 (2 * a1)) + 1)) < (l0.length : Int) then (if 0 ≤ (wrap64 ((wrap64 ((wrap64 (2 * a1)) + 1)) + 1)) then ((samphireref10_Cmp.f ((rd_T25 l0 (wrap64 ((wrap64 (2 * a1)) + 1))).f0) ((rd_T25 l0 (wrap64 ((wrap64 (2 * a1)) + 1))).f1) ((rd_T25 l0 (wrap64 ((wrap64 (2 * a1)) + 1))).f2) ((rd_T25 l0 (wrap64 ((wrap64 ((wrap64 (2 * a1)) + 1)) + 1))).f0) ((rd_T25 l0 (wrap64 ((wrap64 ((wrap64 (2 * a1)) + 1)) + 1))).f1) ((rd_T25 l0 (wrap64 ((wrap64 ((wrap64 (2 * a1)) + 1)) + 1))).f2)).bind fun t293 => (samphireref11_Sink.j0 k l0 a1 (wrap64 ((wrap64 (2 * a1)) + 1)) (decide (t293 < 0)))) else (none)) else (none)) else (none)) else (samphireref11_Sink.j0 k l0 a1 (wrap64 ((wrap64 (2 * a1)) + 1)) false))) = some r := h
 clear h
 by_cases c3 : (wrap64 ((wrap64 (2 * a1)) + 1)) ≥ (l0.length : Int)
 ·
  rw [if_pos c3] at H
  have c3b0 : decide ((l0.length : Int) ≤ (wrap64 ((wrap64 (2 * a1)) + 1))) = true := decide_eq_true c3
  clear c3
  obtain rfl := Option.some.inj H
  go_enter Try.func36, Try.ntmps36
  go_wp2
  go_ret
  exact ⟨_, by first | rfl | (simp [errW_none, errW_some] <;> rfl) | (simp [*, errW_none, errW_some] <;> rfl), by (with_reducible repeat (first | apply Kd.V_alloc | apply Kd.V_drewN | apply Kd.V_drew)); exact HO0.out, by repeat (first | (with_reducible first | exact HB.out | apply below_alloc | apply pw_below_drewN | apply below_drew1) | exact HB.out)⟩
 ·
  rw [if_neg c3] at H
  have c3b0 : decide ((l0.length : Int) ≤ (wrap64 ((wrap64 (2 * a1)) + 1))) = false := decide_eq_false c3
  clear c3
  have HC4 := Aside0.mk H
  clear H
  go_enter Try.func36, Try.ntmps36
  go_upto_region 4 with (fail)
  go_cut [31] (fun v31 wc => ∃ (kq : Nat) (x31_3 : Bool), v31 = .bool x31_3 ∧ Aside0 (samphireref11_Sink.j0 kq l0 a1 (wrap64 ((wrap64 (2 * a1)) + 1)) x31_3 = some r) ∧ Aside0 (kq ≤ k) ∧ Aside0 (Kd.V k25 25 wc w.heap.size (fun k_ => (P0_ k_ ∨ w.heap.size ≤ k_)) (.slice A0 l0.length c0) l0) ∧ Aside0 (Below w.heap.size w wc))
  case first =>
   have H := HC4.out
   clear HC4
   by_cases c5 : (wrap64 ((wrap64 ((wrap64 (2 * a1)) + 1)) + 1)) < (l0.length : Int)
   ·
    rw [if_pos c5] at H
    have c5b0 : decide ((wrap64 ((wrap64 ((wrap64 (2 * a1)) + 1)) + 1)) < (l0.length : Int)) = true := decide_eq_true c5
    clear c5
    (first | rw [c5b0] | (simp only [i64_w, i32_w]; rw [c5b0]) | skip)
    obtain ⟨ji6, hji6⟩ : ∃ j_ : Int, (wrap64 ((wrap64 (2 * a1)) + 1)) = j_ := ⟨_, rfl⟩
    replace H : (if 0 ≤ (ji6) then (if (ji6) < (l0.length : Int) then (if 0 ≤ (wrap64 ((ji6) + 1)) then ((samphireref10_Cmp.f ((rd_T25 l0 (ji6)).f0) ((rd_T25 l0 (ji6)).f1) ((rd_T25 l0 (ji6)).f2) ((rd_T25 l0 (wrap64 ((ji6) + 1))).f0) ((rd_T25 l0 (wrap64 ((ji6) + 1))).f1) ((rd_T25 l0 (wrap64 ((ji6) + 1))).f2)).bind fun t293 => (samphireref11_Sink.j0 k l0 a1 ji6 (decide (t293 < 0)))) else (none)) else (none)) else (none)) = some r := by first | (rw [hji6] at H; exact H) | (simp only [hji6] at H ⊢; exact H)
    (try rw [hji6] at c3b0)
    (try rw [hji6] at c5b0)
    have hji6w : (IntKind.i64.wrap ((wrap64 (2 * a1)) + 1)) = ji6 := (i64_w _).trans hji6
    by_cases c7 : 0 ≤ (ji6)
    ·
     rw [if_pos c7] at H
     have c7b0 : decide (0 ≤ (ji6)) = true := decide_eq_true c7
     clear c7
     by_cases c8 : (ji6) < (l0.length : Int)
     ·
      rw [if_pos c8] at H
      have c8b0 : decide ((ji6) < (l0.length : Int)) = true := decide_eq_true c8
      clear c8
      obtain ⟨ji9, hji9⟩ : ∃ j_ : Int, (wrap64 ((ji6) + 1)) = j_ := ⟨_, rfl⟩
      replace H : (if 0 ≤ (ji9) then ((samphireref10_Cmp.f ((rd_T25 l0 (ji6)).f0) ((rd_T25 l0 (ji6)).f1) ((rd_T25 l0 (ji6)).f2) ((rd_T25 l0 (ji9)).f0) ((rd_T25 l0 (ji9)).f1) ((rd_T25 l0 (ji9)).f2)).bind fun t293 => (samphireref11_Sink.j0 k l0 a1 ji6 (decide (t293 < 0)))) else (none)) = some r := by first | (rw [hji9] at H; exact H) | (simp only [hji9] at H ⊢; exact H)
      have hji9w : (IntKind.i64.wrap ((ji6) + 1)) = ji9 := (i64_w _).trans hji9
      (try rw [hji9] at c5b0)
      by_cases c10 : 0 ≤ (ji9)
      ·
       rw [if_pos c10] at H
       have c10b0 : decide (0 ≤ (ji9)) = true := decide_eq_true c10
       clear c10
       replace H := Option.bind_eq_some_iff.mp H
       obtain ⟨t293, A110, H⟩ := H
       replace H : (samphireref11_Sink.j0 k l0 a1 ji6 (decide (t293 < 0))) = some r := H
       have A11 := Aside0.mk A110
       clear A110
       have H' := Aside0.mk H
       clear H
       try go_wp2
       have n0_ := Aside0.mk (Kd.V_drew HO0.out)
       have n1_ := Aside0.mk (below_drew1 HB.out)
       clear HO0 HB
       have HO0 := n0_
       have HB := n1_
       clear n0_ n1_
       have p291 : 0 ≤ ((ji6) : Int) := of_decide_eq_true (by first | (with_reducible assumption) | assumption)
       have q291 : (ji6) < (l0.length : Int) := of_decide_eq_true (by first | (with_reducible assumption) | assumption)
       obtain ⟨ad291, e291, hx291_0, hx291_1, hx291_2⟩ := at_T25 (Kd.V_reads' HO0.out).2.2 (ji6) p291 q291
       cases e291
       replace p291 := eq_true p291
       replace q291 := eq_true q291
       have p292 : 0 ≤ ((ji9) : Int) := of_decide_eq_true (by first | (with_reducible assumption) | assumption)
       have q292 : (ji9) < (l0.length : Int) := of_decide_eq_true (by first | (with_reducible assumption) | assumption)
       obtain ⟨ad292, e292, hx292_0, hx292_1, hx292_2⟩ := at_T25 (Kd.V_reads' HO0.out).2.2 (ji9) p292 q292
       obtain rfl : ad291 = ad292 := (by injection e292)
       replace p292 := eq_true p292
       replace q292 := eq_true q292
       refine start_ (n := 18) (S := fun w' => w'.cell? (ad291.add (((ji6)).toNat * 3)) = some (.string ((rd_T25 l0 (ji6)).f0)) ∧ w'.cell? ⟨(ad291.add (((ji6)).toNat * 3)).block, (ad291.add (((ji6)).toNat * 3)).off + 1, none⟩ = some (.int .u64 ((rd_T25 l0 (ji6)).f1)) ∧ w'.cell? ⟨(ad291.add (((ji6)).toNat * 3)).block, (ad291.add (((ji6)).toNat * 3)).off + 2, none⟩ = some (.int .u64 ((rd_T25 l0 (ji6)).f2)) ∧ w'.cell? (ad291.add (((ji9)).toNat * 3)) = some (.string ((rd_T25 l0 (ji9)).f0)) ∧ w'.cell? ⟨(ad291.add (((ji9)).toNat * 3)).block, (ad291.add (((ji9)).toNat * 3)).off + 1, none⟩ = some (.int .u64 ((rd_T25 l0 (ji9)).f1)) ∧ w'.cell? ⟨(ad291.add (((ji9)).toNat * 3)).block, (ad291.add (((ji9)).toNat * 3)).off + 2, none⟩ = some (.int .u64 ((rd_T25 l0 (ji9)).f2))) (ds := []) #[false, false, false, false, false, false, false, false, false, false, false, false, false, false, false, false, false, false] (by kernel_rfl) rfl rfl ⟨hx291_0, hx291_1, hx291_2, hx292_0, hx292_1, hx292_2⟩ (fun hHeld => ?_); refine with_tabW samphireref11_Sink.tab4 samphireref11_Sink.bits4 (fun HT_ HW_ => ?_)
       generalize w.drew = w12 at HO0 HB hx291_0 hx291_1 hx291_2 hx292_0 hx292_1 hx292_2 hHeld ⊢
       refine pure_ (i := 0) (N := some 14) (v := ?_) (a' := ?_) #[true, false, false, false, false, false, false, false, false, false, false, false, false, false, false, false, false, false] rfl rfl (any_of HT_.out (by kernel_rfl)) (fun _ _ _ h => h) (Or.inl ⟨by rfl, ?_⟩) ?_ ?_
       rotate_left
       ·
        intro w'
        go_simp
        with_reducible rfl
       rotate_left
       · exact bA
       refine pure_ (i := 1) (N := some 15) (v := ?_) (a' := ?_) #[true, true, false, false, false, false, false, false, false, false, false, false, false, false, false, false, false, false] rfl rfl (any_of HT_.out (by kernel_rfl)) (fun _ _ _ h => h) (Or.inl ⟨by rfl, ?_⟩) ?_ ?_
       rotate_left
       ·
        intro w'
        go_simp
        with_reducible rfl
       rotate_left
       · exact bA
       refine pure_ (i := 2) (N := some 16) (v := ?_) (a' := ?_) #[true, true, true, false, false, false, false, false, false, false, false, false, false, false, false, false, false, false] rfl rfl (any_of HT_.out (by kernel_rfl)) (fun _ _ _ h => h) (Or.inl ⟨by rfl, ?_⟩) ?_ ?_
       rotate_left
       ·
        intro w'
        go_simp
        with_reducible rfl
       rotate_left
       · exact bA
       refine pure_ (i := 3) (N := some 17) (v := ?_) (a' := ?_) #[true, true, true, true, false, false, false, false, false, false, false, false, false, false, false, false, false, false] rfl rfl (any_of HT_.out (by kernel_rfl)) (fun _ _ _ h => h) (Or.inl ⟨by rfl, ?_⟩) ?_ ?_
       rotate_left
       ·
        intro w'
        go_simp
        with_reducible rfl
       rotate_left
       · exact bA
       refine pure_ (i := 4) (N := some 18) (v := ?_) (a' := ?_) #[true, true, true, true, true, false, false, false, false, false, false, false, false, false, false, false, false, false] rfl rfl (any_of HT_.out (by kernel_rfl)) (fun _ _ _ h => h) (Or.inl ⟨by rfl, ?_⟩) ?_ ?_
       rotate_left
       ·
        intro w'
        go_simp
        with_reducible rfl
       rotate_left
       · exact bA
       refine pure_ (i := 5) (N := some 19) (v := ?_) (a' := ?_) #[true, true, true, true, true, true, false, false, false, false, false, false, false, false, false, false, false, false] rfl rfl (any_of HT_.out (by kernel_rfl)) (fun _ _ _ h => h) (Or.inl ⟨by rfl, ?_⟩) ?_ ?_
       rotate_left
       ·
        intro w'
        go_simp
        with_reducible rfl
       rotate_left
       · exact bA
       refine pure_ (i := 6) (N := some 20) (v := ?_) (a' := ?_) #[true, true, true, true, true, true, true, false, false, false, false, false, false, false, false, false, false, false] rfl rfl (any_of HT_.out (by kernel_rfl)) (fun _ _ _ h => h) (Or.inl ⟨by rfl, ?_⟩) ?_ ?_
       rotate_left
       ·
        intro w'
        go_simp
        with_reducible rfl
       rotate_left
       · exact bA
       refine pure_ (i := 7) (N := some 21) (v := ?_) (a' := ?_) #[true, true, true, true, true, true, true, true, false, false, false, false, false, false, false, false, false, false] rfl rfl (any_of HT_.out (by kernel_rfl)) (fun _ _ _ h => h) (Or.inl ⟨by rfl, ?_⟩) ?_ ?_
       rotate_left
       ·
        intro w'
        go_simp
        with_reducible rfl
       rotate_left
       · exact bA
       refine pure_ (i := 8) (N := some 22) (v := ?_) (a' := ?_) #[true, true, true, true, true, true, true, true, true, false, false, false, false, false, false, false, false, false] rfl rfl (any_of HT_.out (by kernel_rfl)) (fun _ _ _ h => h) (Or.inl ⟨by rfl, ?_⟩) ?_ ?_
       rotate_left
       ·
        intro w'
        go_simp
        with_reducible rfl
       rotate_left
       · exact bA
       refine pure_ (i := 10) (N := some 24) (v := ?_) (a' := ?_) #[true, true, true, true, true, true, true, true, true, false, true, false, false, false, false, false, false, false] rfl rfl (any_of HT_.out (by kernel_rfl)) (fun _ _ _ h => h) (Or.inl ⟨by rfl, ?_⟩) ?_ ?_
       rotate_left
       ·
        intro w'
        go_simp
        with_reducible rfl
       rotate_left
       · exact bA
       refine pure_ (i := 11) (N := some 25) (v := ?_) (a' := ?_) #[true, true, true, true, true, true, true, true, true, false, true, true, false, false, false, false, false, false] rfl rfl (any_of HT_.out (by kernel_rfl)) (fun _ _ _ h => h) (Or.inl ⟨by rfl, ?_⟩) ?_ ?_
       rotate_left
       ·
        intro w'
        go_simp
        with_reducible rfl
       rotate_left
       · exact bA
       refine pure_ (i := 12) (N := some 26) (v := ?_) (a' := ?_) #[true, true, true, true, true, true, true, true, true, false, true, true, true, false, false, false, false, false] rfl rfl (any_of HT_.out (by kernel_rfl)) (fun _ _ _ h => h) (Or.inl ⟨by rfl, ?_⟩) ?_ ?_
       rotate_left
       ·
        intro w'
        go_simp
        with_reducible rfl
       rotate_left
       · exact bA
       refine pure_ (i := 13) (N := some 27) (v := ?_) (a' := ?_) #[true, true, true, true, true, true, true, true, true, false, true, true, true, true, false, false, false, false] rfl rfl (any_of HT_.out (by kernel_rfl)) (fun _ _ _ h => h) (Or.inl ⟨by rfl, ?_⟩) ?_ ?_
       rotate_left
       ·
        intro w'
        go_simp
        with_reducible rfl
       rotate_left
       · exact bA
       refine take_ (i := 9) (N := some 23) (v := ?_) (a' := ?_) #[true, true, true, true, true, true, true, true, true, true, true, true, true, true, false, false, false, false] rfl rfl (take_ofW HT_.out HW_.out (by kernel_rfl)) (fun _ _ _ h => h) (Or.inl ⟨by rfl, ?_⟩) hHeld ?_ ?_
       rotate_left
       ·
        rintro w' ⟨s0, s1, s2, s3, s4, s5⟩
        (try simp only [add_plain] at s0 s1 s2 s3 s4 s5)
        go_simp
        with_reducible rfl
       rotate_left
       · exact bA
       refine take_ (i := 14) (N := some 28) (v := ?_) (a' := ?_) #[true, true, true, true, true, true, true, true, true, true, true, true, true, true, true, false, false, false] rfl rfl (take_ofW HT_.out HW_.out (by kernel_rfl)) (fun _ _ _ h => h) (Or.inl ⟨by rfl, ?_⟩) hHeld ?_ ?_
       rotate_left
       ·
        rintro w' ⟨s0, s1, s2, s3, s4, s5⟩
        (try simp only [add_plain] at s0 s1 s2 s3 s4 s5)
        go_simp
        with_reducible rfl
       rotate_left
       · exact bA
       refine one_ (i := 15) (N := some 29) #[true, true, true, true, true, true, true, true, true, true, true, true, true, true, true, true, false, false] rfl rfl (one_of HT_.out (by kernel_rfl)) (by decide) (fun K hK => ?_)
       refine goes_ Try.func32 (by kernel_rfl) rfl #[.agg #[.string ((rd_T25 l0 (ji6)).f0), .int .u64 ((rd_T25 l0 (ji6)).f1), .int .u64 ((rd_T25 l0 (ji6)).f2)], .agg #[.string ((rd_T25 l0 (ji9)).f0), .int .u64 ((rd_T25 l0 (ji9)).f1), .int .u64 ((rd_T25 l0 (ji9)).f2)]] (by rfl) rfl rfl (by (try simp only [List.map_toArray, List.map_cons, List.map_nil]); first | done | (simp only [hji6, hji9]; rfl) | rfl | (simp only [List.length_drop, List.length_take]; rfl)) ?_
       with_reducible refine (samphireref10_Cmp.calls ((rd_T25 l0 (ji6)).f0) ((rd_T25 l0 (ji6)).f1) ((rd_T25 l0 (ji6)).f2) ((rd_T25 l0 (ji9)).f0) ((rd_T25 l0 (ji9)).f1) ((rd_T25 l0 (ji9)).f2) t293 _ A11.out).mono ?_
       rintro e w13 ⟨rfl, hb⟩
       have HS0_ := (hb.cell (World.block_lt_of_cell? _ _ (hHeld.1))).trans (hHeld.1)
       have HS1_ := (hb.cell (World.block_lt_of_cell? _ _ (hHeld.2.1))).trans (hHeld.2.1)
       have HS2_ := (hb.cell (World.block_lt_of_cell? _ _ (hHeld.2.2.1))).trans (hHeld.2.2.1)
       have HS3_ := (hb.cell (World.block_lt_of_cell? _ _ (hHeld.2.2.2.1))).trans (hHeld.2.2.2.1)
       have HS4_ := (hb.cell (World.block_lt_of_cell? _ _ (hHeld.2.2.2.2.1))).trans (hHeld.2.2.2.2.1)
       have HS5_ := (hb.cell (World.block_lt_of_cell? _ _ (hHeld.2.2.2.2.2))).trans (hHeld.2.2.2.2.2)
       refine ⟨_, rfl, ?_⟩
       have n0_ := Aside0.mk (Kd.V_below (by (with_reducible repeat (first | apply Kd.V_alloc | apply Kd.V_drewN | apply Kd.V_drew)); exact HO0.out) hb)
       have n1_ := Aside0.mk (below_step (bW HB.out) hb)
       clear HO0 HB
       have HO0 := n0_
       have HB := n1_
       clear n0_ n1_
       (try clear hb)
       (try clear hb2)
       (try clear hk)
       (try clear hi)
       refine hK.out _ _ ⟨HS0_, HS1_, HS2_, HS3_, HS4_, HS5_⟩ (fun hHeld => ?_)
       clear hK K
       refine norm_ (a' := ?_) ?_ ?_
       rotate_left
       ·
        show Act.put _ (some 29) _ = _
        simp only [Act.put, List.setIfInBounds_toArray, List.set_cons_zero, List.set_cons_succ, i64_w, i32_w]
        rfl
       refine pure_ (i := 16) (N := some 30) (v := ?_) (a' := ?_) #[true, true, true, true, true, true, true, true, true, true, true, true, true, true, true, true, true, false] rfl rfl (any_of HT_.out (by kernel_rfl)) (fun _ _ _ h => h) (Or.inl ⟨by rfl, ?_⟩) ?_ ?_
       rotate_left
       ·
        intro w'
        go_simp
        with_reducible rfl
       rotate_left
       · exact bA
       refine pure_ (i := 17) (N := some 31) (v := ?_) (a' := ?_) #[true, true, true, true, true, true, true, true, true, true, true, true, true, true, true, true, true, true] rfl rfl (any_of HT_.out (by kernel_rfl)) (fun _ _ _ h => h) (Or.inl ⟨by rfl, ?_⟩) ?_ ?_
       rotate_left
       ·
        intro w'
        go_simp
        with_reducible rfl
       rotate_left
       · exact bA
       refine done_ (done_of HT_.out (by kernel_rfl)) ?_
       try go_wp2
       (try subst hji6)
       (try subst hji9)
       go_meet
       case rel => exact ⟨_, (decide (t293 < 0)), (by first | rfl | (simp; done) | (simp [*]; done)), H', ⟨by first | omega | exact Nat.le_refl _⟩, ⟨by (with_reducible repeat (first | apply Kd.V_alloc | apply Kd.V_drewN | apply Kd.V_drew)); exact HO0.out⟩, ⟨by repeat (first | (with_reducible first | exact HB.out | apply below_alloc | apply pw_below_drewN | apply below_drew1) | exact HB.out)⟩⟩
      ·
       rw [if_neg c10] at H
       exact absurd H (by simp)
     ·
      rw [if_neg c8] at H
      exact absurd H (by simp)
    ·
     rw [if_neg c7] at H
     exact absurd H (by simp)
   ·
    rw [if_neg c5] at H
    have c5b0 : decide ((wrap64 ((wrap64 ((wrap64 (2 * a1)) + 1)) + 1)) < (l0.length : Int)) = false := decide_eq_false c5
    clear c5
    (first | rw [c5b0] | (simp only [i64_w, i32_w]; rw [c5b0]) | skip)
    have H' := Aside0.mk H
    clear H
    try go_wp2
    have n0_ := Aside0.mk (Kd.V_drew HO0.out)
    have n1_ := Aside0.mk (below_drew1 HB.out)
    clear HO0 HB
    have HO0 := n0_
    have HB := n1_
    clear n0_ n1_
    refine start_ (n := 18) (S := fun w' => True) (ds := []) #[false, false, false, false, false, false, false, false, false, false, false, false, false, false, false, false, false, false] (by kernel_rfl) rfl rfl trivial (fun hHeld => ?_); refine with_tabW samphireref11_Sink.tab4 samphireref11_Sink.bits4 (fun HT_ HW_ => ?_)
    generalize w.drew = w14 at HO0 HB hHeld ⊢
    refine pure_ (i := 0) (N := some 14) (v := ?_) (a' := ?_) #[true, false, false, false, false, false, false, false, false, false, false, false, false, false, false, false, false, false] rfl rfl (any_of HT_.out (by kernel_rfl)) (fun _ _ _ h => h) (Or.inl ⟨by rfl, ?_⟩) ?_ ?_
    rotate_left
    ·
     intro w'
     go_simp
     with_reducible rfl
    rotate_left
    · exact bA
    refine pure_ (i := 1) (N := some 15) (v := ?_) (a' := ?_) #[true, true, false, false, false, false, false, false, false, false, false, false, false, false, false, false, false, false] rfl rfl (any_of HT_.out (by kernel_rfl)) (fun _ _ _ h => h) (Or.inl ⟨by rfl, ?_⟩) ?_ ?_
    rotate_left
    ·
     intro w'
     go_simp
     with_reducible rfl
    rotate_left
    · exact bA
    refine pure_ (i := 2) (N := some 16) (v := ?_) (a' := ?_) #[true, true, true, false, false, false, false, false, false, false, false, false, false, false, false, false, false, false] rfl rfl (any_of HT_.out (by kernel_rfl)) (fun _ _ _ h => h) (Or.inl ⟨by rfl, ?_⟩) ?_ ?_
    rotate_left
    ·
     intro w'
     go_simp
     with_reducible rfl
    rotate_left
    · exact bA
    refine pure_ (i := 3) (N := some 17) (v := ?_) (a' := ?_) #[true, true, true, true, false, false, false, false, false, false, false, false, false, false, false, false, false, false] rfl rfl (any_of HT_.out (by kernel_rfl)) (fun _ _ _ h => h) (Or.inl ⟨by rfl, ?_⟩) ?_ ?_
    rotate_left
    ·
     intro w'
     go_simp
     with_reducible rfl
    rotate_left
    · exact bA
    refine pure_ (i := 4) (N := some 18) (v := ?_) (a' := ?_) #[true, true, true, true, true, false, false, false, false, false, false, false, false, false, false, false, false, false] rfl rfl (any_of HT_.out (by kernel_rfl)) (fun _ _ _ h => h) (Or.inl ⟨by rfl, ?_⟩) ?_ ?_
    rotate_left
    ·
     intro w'
     go_simp
     with_reducible rfl
    rotate_left
    · exact bA
    refine pure_ (i := 5) (N := some 19) (v := ?_) (a' := ?_) #[true, true, true, true, true, true, false, false, false, false, false, false, false, false, false, false, false, false] rfl rfl (any_of HT_.out (by kernel_rfl)) (fun _ _ _ h => h) (Or.inl ⟨by rfl, ?_⟩) ?_ ?_
    rotate_left
    ·
     intro w'
     go_simp
     with_reducible rfl
    rotate_left
    · exact bA
    refine pure_ (i := 6) (N := some 20) (v := undef) (a' := ?_) #[true, true, true, true, true, true, true, false, false, false, false, false, false, false, false, false, false, false] rfl rfl (any_of HT_.out (by kernel_rfl)) (fun _ _ _ h => h) (Or.inr ⟨by rfl, rfl⟩) ?_ ?_
    rotate_left
    · exact bA
    refine pure_ (i := 7) (N := some 21) (v := undef) (a' := ?_) #[true, true, true, true, true, true, true, true, false, false, false, false, false, false, false, false, false, false] rfl rfl (any_of HT_.out (by kernel_rfl)) (fun _ _ _ h => h) (Or.inr ⟨by rfl, rfl⟩) ?_ ?_
    rotate_left
    · exact bA
    refine pure_ (i := 8) (N := some 22) (v := undef) (a' := ?_) #[true, true, true, true, true, true, true, true, true, false, false, false, false, false, false, false, false, false] rfl rfl (any_of HT_.out (by kernel_rfl)) (fun _ _ _ h => h) (Or.inr ⟨by rfl, rfl⟩) ?_ ?_
    rotate_left
    · exact bA
    refine pure_ (i := 9) (N := some 23) (v := undef) (a' := ?_) #[true, true, true, true, true, true, true, true, true, true, false, false, false, false, false, false, false, false] rfl rfl (any_of HT_.out (by kernel_rfl)) (fun _ _ _ h => h) (Or.inr ⟨by rfl, rfl⟩) ?_ ?_
    rotate_left
    · exact bA
    refine pure_ (i := 10) (N := some 24) (v := undef) (a' := ?_) #[true, true, true, true, true, true, true, true, true, true, true, false, false, false, false, false, false, false] rfl rfl (any_of HT_.out (by kernel_rfl)) (fun _ _ _ h => h) (Or.inr ⟨by rfl, rfl⟩) ?_ ?_
    rotate_left
    · exact bA
    refine pure_ (i := 11) (N := some 25) (v := undef) (a' := ?_) #[true, true, true, true, true, true, true, true, true, true, true, true, false, false, false, false, false, false] rfl rfl (any_of HT_.out (by kernel_rfl)) (fun _ _ _ h => h) (Or.inr ⟨by rfl, rfl⟩) ?_ ?_
    rotate_left
    · exact bA
    refine pure_ (i := 12) (N := some 26) (v := undef) (a' := ?_) #[true, true, true, true, true, true, true, true, true, true, true, true, true, false, false, false, false, false] rfl rfl (any_of HT_.out (by kernel_rfl)) (fun _ _ _ h => h) (Or.inr ⟨by rfl, rfl⟩) ?_ ?_
    rotate_left
    · exact bA
    refine pure_ (i := 13) (N := some 27) (v := undef) (a' := ?_) #[true, true, true, true, true, true, true, true, true, true, true, true, true, true, false, false, false, false] rfl rfl (any_of HT_.out (by kernel_rfl)) (fun _ _ _ h => h) (Or.inr ⟨by rfl, rfl⟩) ?_ ?_
    rotate_left
    · exact bA
    refine pure_ (i := 14) (N := some 28) (v := undef) (a' := ?_) #[true, true, true, true, true, true, true, true, true, true, true, true, true, true, true, false, false, false] rfl rfl (any_of HT_.out (by kernel_rfl)) (fun _ _ _ h => h) (Or.inr ⟨by rfl, rfl⟩) ?_ ?_
    rotate_left
    · exact bA
    refine pure_ (i := 15) (N := some 29) (v := undef) (a' := ?_) #[true, true, true, true, true, true, true, true, true, true, true, true, true, true, true, true, false, false] rfl rfl (any_of HT_.out (by kernel_rfl)) (fun _ _ _ h => h) (Or.inr ⟨by rfl, rfl⟩) ?_ ?_
    rotate_left
    · exact bA
    refine pure_ (i := 16) (N := some 30) (v := undef) (a' := ?_) #[true, true, true, true, true, true, true, true, true, true, true, true, true, true, true, true, true, false] rfl rfl (any_of HT_.out (by kernel_rfl)) (fun _ _ _ h => h) (Or.inr ⟨by rfl, rfl⟩) ?_ ?_
    rotate_left
    · exact bA
    refine pure_ (i := 17) (N := some 31) (v := ?_) (a' := ?_) #[true, true, true, true, true, true, true, true, true, true, true, true, true, true, true, true, true, true] rfl rfl (any_of HT_.out (by kernel_rfl)) (fun _ _ _ h => h) (Or.inl ⟨by rfl, ?_⟩) ?_ ?_
    rotate_left
    ·
     intro w'
     go_simp
     with_reducible rfl
    rotate_left
    · exact bA
    refine done_ (done_of HT_.out (by kernel_rfl)) ?_
    try go_wp2
    go_meet
    case rel => exact ⟨_, (false), (by first | rfl | (simp; done) | (simp [*]; done)), H', ⟨by first | omega | exact Nat.le_refl _⟩, ⟨by (with_reducible repeat (first | apply Kd.V_alloc | apply Kd.V_drewN | apply Kd.V_drew)); exact HO0.out⟩, ⟨by repeat (first | (with_reducible first | exact HB.out | apply below_alloc | apply pw_below_drewN | apply below_drew1) | exact HB.out)⟩⟩
  case rest =>
   clear HC4
   try clear c1
   try clear p2
   try clear q2
   try clear hx2
   try clear c3
   try clear c3b0
   try clear c5
   try clear c5b0
   try clear p6
   try clear c7
   try clear c7b0
   try clear c8
   try clear c8b0
   try clear c10
   try clear c10b0
   try clear hx291_0
   try clear hx291_1
   try clear hx291_2
   try clear hx292_0
   try clear hx292_1
   try clear hx292_2
   try clear p291
   try clear p292
   try clear q291
   try clear q292
   obtain ⟨kq, x31_3, rfl, HA, HJ3, HO_0, HB⟩ := hcut
   cases kq with
   | zero => exact absurd HA.out (by simp [samphireref11_Sink.j0])
   | succ kj3 =>
    have H := HA.out
    clear HA
    simp only [samphireref11_Sink.j0] at H
    have HC15 := Aside0.mk H
    clear H
    go_upto_if 31 with (fail)
    go_cut [5] (fun v5 wc => ∃ (kq : Nat) (x5_14 : Int), v5 = .int .i64 x5_14 ∧ Aside0 (samphireref11_Sink.j1 kq l0 a1 x5_14 = some r) ∧ Aside0 (kq ≤ kj3) ∧ Aside0 (Kd.V k25 25 wc w.heap.size (fun k_ => (P0_ k_ ∨ w.heap.size ≤ k_)) (.slice A0 l0.length c0) l0) ∧ Aside0 (Below w.heap.size w wc))
    case first =>
     have H := HC15.out
     clear HC15
     by_cases c16 : x31_3 = true
     ·
      subst c16
      have H1 : (samphireref11_Sink.j1 kj3 l0 a1 (wrap64 ((wrap64 ((wrap64 (2 * a1)) + 1)) + 1))) = some r := by rw [if_pos rfl] at H; exact H
      clear H
      have H := H1
      clear H1
      have H' := Aside0.mk H
      clear H
      go_wp2
      go_meet
      case rel => exact ⟨_, (wrap64 ((wrap64 ((wrap64 (2 * a1)) + 1)) + 1)), (by first | rfl | (simp; done) | (simp [*]; done)), H', ⟨by have := HJ3.out; first | omega | exact Nat.le_refl _⟩, ⟨by (with_reducible repeat (first | apply Kd.V_alloc | apply Kd.V_drewN | apply Kd.V_drew)); exact HO_0.out⟩, ⟨by repeat (first | (with_reducible first | exact HB.out | apply below_alloc | apply pw_below_drewN | apply below_drew1) | exact HB.out)⟩⟩
     ·
      replace c16 := Bool.eq_false_iff.mpr c16
      subst c16
      have H1 : (samphireref11_Sink.j1 kj3 l0 a1 (wrap64 ((wrap64 (2 * a1)) + 1))) = some r := by rw [if_neg (show ¬ (false = true) by decide)] at H; exact H
      clear H
      have H := H1
      clear H1
      have H' := Aside0.mk H
      clear H
      go_wp2
      go_meet
      case rel => exact ⟨_, ((wrap64 ((wrap64 (2 * a1)) + 1))), (by first | rfl | (simp; done) | (simp [*]; done)), H', ⟨by have := HJ3.out; first | omega | exact Nat.le_refl _⟩, ⟨by (with_reducible repeat (first | apply Kd.V_alloc | apply Kd.V_drewN | apply Kd.V_drew)); exact HO_0.out⟩, ⟨by repeat (first | (with_reducible first | exact HB.out | apply below_alloc | apply pw_below_drewN | apply below_drew1) | exact HB.out)⟩⟩
    case rest =>
     clear HC15
     try clear c1
     try clear p2
     try clear q2
     try clear hx2
     try clear c3
     try clear c3b0
     try clear c5
     try clear c5b0
     try clear p6
     try clear c7
     try clear c7b0
     try clear c8
     try clear c8b0
     try clear c10
     try clear c10b0
     try clear c16
     try clear hx291_0
     try clear hx291_1
     try clear hx291_2
     try clear hx292_0
     try clear hx292_1
     try clear hx292_2
     try clear p2
     try clear p291
     try clear p292
     try clear p6
     try clear q2
     try clear q291
     try clear q292
     obtain ⟨kq, x5_14, rfl, HA, HJ14, HO_0, HB⟩ := hcut
     cases kq with
     | zero => exact absurd HA.out (by simp [samphireref11_Sink.j1])
     | succ kj14 =>
      have H := HA.out
      clear HA
      simp only [samphireref11_Sink.j1] at H
      by_cases c17 : 0 ≤ a1
      ·
       rw [if_pos c17] at H
       have c17b0 : decide (0 ≤ a1) = true := decide_eq_true c17
       clear c17
       by_cases c18 : a1 < (l0.length : Int)
       ·
        rw [if_pos c18] at H
        have c18b0 : decide (a1 < (l0.length : Int)) = true := decide_eq_true c18
        clear c18
        by_cases c19 : 0 ≤ x5_14
        ·
         rw [if_pos c19] at H
         have c19b0 : decide (0 ≤ x5_14) = true := decide_eq_true c19
         clear c19
         by_cases c20 : x5_14 < (l0.length : Int)
         ·
          rw [if_pos c20] at H
          have c20b0 : decide (x5_14 < (l0.length : Int)) = true := decide_eq_true c20
          clear c20
          replace H := Option.bind_eq_some_iff.mp H
          obtain ⟨t296, A210, H⟩ := H
          replace H : (if t296 ≥ 0 then (some l0) else ((samphireref11_swap.f l0 a1 x5_14).bind fun t297 => ((samphireref11_Sink.f kj14 t297 x5_14).bind fun t300 => (some t300)))) = some r := H
          have A21 := Aside0.mk A210
          clear A210
          by_cases c22 : t296 ≥ 0
          ·
           rw [if_pos c22] at H
           have c22b0 : decide (0 ≤ t296) = true := decide_eq_true c22
           clear c22
           obtain rfl := Option.some.inj H
           try go_wp2
           have n0_ := Aside0.mk (Kd.V_drew HO_0.out)
           have n1_ := Aside0.mk (below_drew1 HB.out)
           clear HO_0 HB
           have HO_0 := n0_
           have HB := n1_
           clear n0_ n1_
           have p294 : 0 ≤ (a1 : Int) := of_decide_eq_true (by first | (with_reducible assumption) | assumption)
           have q294 : a1 < (l0.length : Int) := of_decide_eq_true (by first | (with_reducible assumption) | assumption)
           obtain ⟨ad294, e294, hx294_0, hx294_1, hx294_2⟩ := at_T25 (Kd.V_reads' HO_0.out).2.2 a1 p294 q294
           cases e294
           replace p294 := eq_true p294
           replace q294 := eq_true q294
           have p295 : 0 ≤ (x5_14 : Int) := of_decide_eq_true (by first | (with_reducible assumption) | assumption)
           have q295 : x5_14 < (l0.length : Int) := of_decide_eq_true (by first | (with_reducible assumption) | assumption)
           obtain ⟨ad295, e295, hx295_0, hx295_1, hx295_2⟩ := at_T25 (Kd.V_reads' HO_0.out).2.2 x5_14 p295 q295
           obtain rfl : ad294 = ad295 := (by injection e295)
           replace p295 := eq_true p295
           replace q295 := eq_true q295
           refine start_ (n := 10) (S := fun w' => w'.cell? (ad294.add ((a1).toNat * 3)) = some (.string ((rd_T25 l0 a1).f0)) ∧ w'.cell? ⟨(ad294.add ((a1).toNat * 3)).block, (ad294.add ((a1).toNat * 3)).off + 1, none⟩ = some (.int .u64 ((rd_T25 l0 a1).f1)) ∧ w'.cell? ⟨(ad294.add ((a1).toNat * 3)).block, (ad294.add ((a1).toNat * 3)).off + 2, none⟩ = some (.int .u64 ((rd_T25 l0 a1).f2)) ∧ w'.cell? (ad294.add ((x5_14).toNat * 3)) = some (.string ((rd_T25 l0 x5_14).f0)) ∧ w'.cell? ⟨(ad294.add ((x5_14).toNat * 3)).block, (ad294.add ((x5_14).toNat * 3)).off + 1, none⟩ = some (.int .u64 ((rd_T25 l0 x5_14).f1)) ∧ w'.cell? ⟨(ad294.add ((x5_14).toNat * 3)).block, (ad294.add ((x5_14).toNat * 3)).off + 2, none⟩ = some (.int .u64 ((rd_T25 l0 x5_14).f2))) (ds := []) #[false, false, false, false, false, false, false, false, false, false] (by kernel_rfl) rfl rfl ⟨hx294_0, hx294_1, hx294_2, hx295_0, hx295_1, hx295_2⟩ (fun hHeld => ?_); refine with_tabW samphireref11_Sink.tab6 samphireref11_Sink.bits6 (fun HT_ HW_ => ?_)
           generalize wc.drew = w23 at HO_0 HB hx294_0 hx294_1 hx294_2 hx295_0 hx295_1 hx295_2 hHeld ⊢
           refine pure_ (i := 0) (N := some 34) (v := ?_) (a' := ?_) #[true, false, false, false, false, false, false, false, false, false] rfl rfl (any_of HT_.out (by kernel_rfl)) (fun _ _ _ h => h) (Or.inl ⟨by rfl, ?_⟩) ?_ ?_
           rotate_left
           ·
            intro w'
            go_simp
            with_reducible rfl
           rotate_left
           · exact bA
           refine pure_ (i := 1) (N := some 35) (v := ?_) (a' := ?_) #[true, true, false, false, false, false, false, false, false, false] rfl rfl (any_of HT_.out (by kernel_rfl)) (fun _ _ _ h => h) (Or.inl ⟨by rfl, ?_⟩) ?_ ?_
           rotate_left
           ·
            intro w'
            go_simp
            with_reducible rfl
           rotate_left
           · exact bA
           refine pure_ (i := 2) (N := some 36) (v := ?_) (a' := ?_) #[true, true, true, false, false, false, false, false, false, false] rfl rfl (any_of HT_.out (by kernel_rfl)) (fun _ _ _ h => h) (Or.inl ⟨by rfl, ?_⟩) ?_ ?_
           rotate_left
           ·
            intro w'
            go_simp
            with_reducible rfl
           rotate_left
           · exact bA
           refine pure_ (i := 4) (N := some 38) (v := ?_) (a' := ?_) #[true, true, true, false, true, false, false, false, false, false] rfl rfl (any_of HT_.out (by kernel_rfl)) (fun _ _ _ h => h) (Or.inl ⟨by rfl, ?_⟩) ?_ ?_
           rotate_left
           ·
            intro w'
            go_simp
            with_reducible rfl
           rotate_left
           · exact bA
           refine pure_ (i := 5) (N := some 39) (v := ?_) (a' := ?_) #[true, true, true, false, true, true, false, false, false, false] rfl rfl (any_of HT_.out (by kernel_rfl)) (fun _ _ _ h => h) (Or.inl ⟨by rfl, ?_⟩) ?_ ?_
           rotate_left
           ·
            intro w'
            go_simp
            with_reducible rfl
           rotate_left
           · exact bA
           refine pure_ (i := 6) (N := some 40) (v := ?_) (a' := ?_) #[true, true, true, false, true, true, true, false, false, false] rfl rfl (any_of HT_.out (by kernel_rfl)) (fun _ _ _ h => h) (Or.inl ⟨by rfl, ?_⟩) ?_ ?_
           rotate_left
           ·
            intro w'
            go_simp
            with_reducible rfl
           rotate_left
           · exact bA
           refine take_ (i := 3) (N := some 37) (v := ?_) (a' := ?_) #[true, true, true, true, true, true, true, false, false, false] rfl rfl (take_ofW HT_.out HW_.out (by kernel_rfl)) (fun _ _ _ h => h) (Or.inl ⟨by rfl, ?_⟩) hHeld ?_ ?_
           rotate_left
           ·
            rintro w' ⟨s0, s1, s2, s3, s4, s5⟩
            (try simp only [add_plain] at s0 s1 s2 s3 s4 s5)
            go_simp
            with_reducible rfl
           rotate_left
           · exact bA
           refine take_ (i := 7) (N := some 41) (v := ?_) (a' := ?_) #[true, true, true, true, true, true, true, true, false, false] rfl rfl (take_ofW HT_.out HW_.out (by kernel_rfl)) (fun _ _ _ h => h) (Or.inl ⟨by rfl, ?_⟩) hHeld ?_ ?_
           rotate_left
           ·
            rintro w' ⟨s0, s1, s2, s3, s4, s5⟩
            (try simp only [add_plain] at s0 s1 s2 s3 s4 s5)
            go_simp
            with_reducible rfl
           rotate_left
           · exact bA
           refine one_ (i := 8) (N := some 42) #[true, true, true, true, true, true, true, true, true, false] rfl rfl (one_of HT_.out (by kernel_rfl)) (by decide) (fun K hK => ?_)
           refine goes_ Try.func32 (by kernel_rfl) rfl #[.agg #[.string ((rd_T25 l0 a1).f0), .int .u64 ((rd_T25 l0 a1).f1), .int .u64 ((rd_T25 l0 a1).f2)], .agg #[.string ((rd_T25 l0 x5_14).f0), .int .u64 ((rd_T25 l0 x5_14).f1), .int .u64 ((rd_T25 l0 x5_14).f2)]] (by rfl) rfl rfl (by (try simp only [List.map_toArray, List.map_cons, List.map_nil]); first | done | rfl | (simp only [List.length_drop, List.length_take]; rfl)) ?_
           with_reducible refine (samphireref10_Cmp.calls ((rd_T25 l0 a1).f0) ((rd_T25 l0 a1).f1) ((rd_T25 l0 a1).f2) ((rd_T25 l0 x5_14).f0) ((rd_T25 l0 x5_14).f1) ((rd_T25 l0 x5_14).f2) t296 _ A21.out).mono ?_
           rintro e w24 ⟨rfl, hb⟩
           have HS0_ := (hb.cell (World.block_lt_of_cell? _ _ (hHeld.1))).trans (hHeld.1)
           have HS1_ := (hb.cell (World.block_lt_of_cell? _ _ (hHeld.2.1))).trans (hHeld.2.1)
           have HS2_ := (hb.cell (World.block_lt_of_cell? _ _ (hHeld.2.2.1))).trans (hHeld.2.2.1)
           have HS3_ := (hb.cell (World.block_lt_of_cell? _ _ (hHeld.2.2.2.1))).trans (hHeld.2.2.2.1)
           have HS4_ := (hb.cell (World.block_lt_of_cell? _ _ (hHeld.2.2.2.2.1))).trans (hHeld.2.2.2.2.1)
           have HS5_ := (hb.cell (World.block_lt_of_cell? _ _ (hHeld.2.2.2.2.2))).trans (hHeld.2.2.2.2.2)
           refine ⟨_, rfl, ?_⟩
           have n0_ := Aside0.mk (Kd.V_below (by (with_reducible repeat (first | apply Kd.V_alloc | apply Kd.V_drewN | apply Kd.V_drew)); exact HO_0.out) hb)
           have n1_ := Aside0.mk (below_step (bW HB.out) hb)
           clear HO_0 HB
           have HO_0 := n0_
           have HB := n1_
           clear n0_ n1_
           (try clear hb)
           (try clear hb2)
           (try clear hk)
           (try clear hi)
           refine hK.out _ _ ⟨HS0_, HS1_, HS2_, HS3_, HS4_, HS5_⟩ (fun hHeld => ?_)
           clear hK K
           refine norm_ (a' := ?_) ?_ ?_
           rotate_left
           ·
            show Act.put _ (some 42) _ = _
            simp only [Act.put, List.setIfInBounds_toArray, List.set_cons_zero, List.set_cons_succ, i64_w, i32_w]
            rfl
           refine pure_ (i := 9) (N := some 43) (v := ?_) (a' := ?_) #[true, true, true, true, true, true, true, true, true, true] rfl rfl (any_of HT_.out (by kernel_rfl)) (fun _ _ _ h => h) (Or.inl ⟨by rfl, ?_⟩) ?_ ?_
           rotate_left
           ·
            intro w'
            go_simp
            with_reducible rfl
           rotate_left
           · exact bA
           refine done_ (done_of HT_.out (by kernel_rfl)) ?_
           try go_wp2
           go_ret
           exact ⟨_, by first | rfl | (simp [errW_none, errW_some] <;> rfl) | (simp [*, errW_none, errW_some] <;> rfl), by (with_reducible repeat (first | apply Kd.V_alloc | apply Kd.V_drewN | apply Kd.V_drew)); exact HO_0.out, by repeat (first | (with_reducible first | exact HB.out | apply below_alloc | apply pw_below_drewN | apply below_drew1) | exact HB.out)⟩
          ·
           rw [if_neg c22] at H
           have c22b0 : decide (0 ≤ t296) = false := decide_eq_false c22
           clear c22
           replace H := Option.bind_eq_some_iff.mp H
           obtain ⟨t297, A250, H⟩ := H
           replace H : ((samphireref11_Sink.f kj14 t297 x5_14).bind fun t300 => (some t300)) = some r := H
           have A25 := Aside0.mk A250
           clear A250
           replace H := Option.bind_eq_some_iff.mp H
           obtain ⟨t300, A260, H⟩ := H
           replace H : (some t300) = some r := H
           have A26 := Aside0.mk A260
           clear A260
           obtain rfl := Option.some.inj H
           try go_wp2
           have n0_ := Aside0.mk (Kd.V_drew HO_0.out)
           have n1_ := Aside0.mk (below_drew1 HB.out)
           clear HO_0 HB
           have HO_0 := n0_
           have HB := n1_
           clear n0_ n1_
           have p294 : 0 ≤ (a1 : Int) := of_decide_eq_true (by first | (with_reducible assumption) | assumption)
           have q294 : a1 < (l0.length : Int) := of_decide_eq_true (by first | (with_reducible assumption) | assumption)
           obtain ⟨ad294, e294, hx294_0, hx294_1, hx294_2⟩ := at_T25 (Kd.V_reads' HO_0.out).2.2 a1 p294 q294
           cases e294
           replace p294 := eq_true p294
           replace q294 := eq_true q294
           have p295 : 0 ≤ (x5_14 : Int) := of_decide_eq_true (by first | (with_reducible assumption) | assumption)
           have q295 : x5_14 < (l0.length : Int) := of_decide_eq_true (by first | (with_reducible assumption) | assumption)
           obtain ⟨ad295, e295, hx295_0, hx295_1, hx295_2⟩ := at_T25 (Kd.V_reads' HO_0.out).2.2 x5_14 p295 q295
           obtain rfl : ad294 = ad295 := (by injection e295)
           replace p295 := eq_true p295
           replace q295 := eq_true q295
           refine start_ (n := 10) (S := fun w' => w'.cell? (ad294.add ((a1).toNat * 3)) = some (.string ((rd_T25 l0 a1).f0)) ∧ w'.cell? ⟨(ad294.add ((a1).toNat * 3)).block, (ad294.add ((a1).toNat * 3)).off + 1, none⟩ = some (.int .u64 ((rd_T25 l0 a1).f1)) ∧ w'.cell? ⟨(ad294.add ((a1).toNat * 3)).block, (ad294.add ((a1).toNat * 3)).off + 2, none⟩ = some (.int .u64 ((rd_T25 l0 a1).f2)) ∧ w'.cell? (ad294.add ((x5_14).toNat * 3)) = some (.string ((rd_T25 l0 x5_14).f0)) ∧ w'.cell? ⟨(ad294.add ((x5_14).toNat * 3)).block, (ad294.add ((x5_14).toNat * 3)).off + 1, none⟩ = some (.int .u64 ((rd_T25 l0 x5_14).f1)) ∧ w'.cell? ⟨(ad294.add ((x5_14).toNat * 3)).block, (ad294.add ((x5_14).toNat * 3)).off + 2, none⟩ = some (.int .u64 ((rd_T25 l0 x5_14).f2))) (ds := []) #[false, false, false, false, false, false, false, false, false, false] (by kernel_rfl) rfl rfl ⟨hx294_0, hx294_1, hx294_2, hx295_0, hx295_1, hx295_2⟩ (fun hHeld => ?_); refine with_tabW samphireref11_Sink.tab6 samphireref11_Sink.bits6 (fun HT_ HW_ => ?_)
           generalize wc.drew = w27 at HO_0 HB hx294_0 hx294_1 hx294_2 hx295_0 hx295_1 hx295_2 hHeld ⊢
           refine pure_ (i := 0) (N := some 34) (v := ?_) (a' := ?_) #[true, false, false, false, false, false, false, false, false, false] rfl rfl (any_of HT_.out (by kernel_rfl)) (fun _ _ _ h => h) (Or.inl ⟨by rfl, ?_⟩) ?_ ?_
           rotate_left
           ·
            intro w'
            go_simp
            with_reducible rfl
           rotate_left
           · exact bA
           refine pure_ (i := 1) (N := some 35) (v := ?_) (a' := ?_) #[true, true, false, false, false, false, false, false, false, false] rfl rfl (any_of HT_.out (by kernel_rfl)) (fun _ _ _ h => h) (Or.inl ⟨by rfl, ?_⟩) ?_ ?_
           rotate_left
           ·
            intro w'
            go_simp
            with_reducible rfl
           rotate_left
           · exact bA
           refine pure_ (i := 2) (N := some 36) (v := ?_) (a' := ?_) #[true, true, true, false, false, false, false, false, false, false] rfl rfl (any_of HT_.out (by kernel_rfl)) (fun _ _ _ h => h) (Or.inl ⟨by rfl, ?_⟩) ?_ ?_
           rotate_left
           ·
            intro w'
            go_simp
            with_reducible rfl
           rotate_left
           · exact bA
           refine pure_ (i := 4) (N := some 38) (v := ?_) (a' := ?_) #[true, true, true, false, true, false, false, false, false, false] rfl rfl (any_of HT_.out (by kernel_rfl)) (fun _ _ _ h => h) (Or.inl ⟨by rfl, ?_⟩) ?_ ?_
           rotate_left
           ·
            intro w'
            go_simp
            with_reducible rfl
           rotate_left
           · exact bA
           refine pure_ (i := 5) (N := some 39) (v := ?_) (a' := ?_) #[true, true, true, false, true, true, false, false, false, false] rfl rfl (any_of HT_.out (by kernel_rfl)) (fun _ _ _ h => h) (Or.inl ⟨by rfl, ?_⟩) ?_ ?_
           rotate_left
           ·
            intro w'
            go_simp
            with_reducible rfl
           rotate_left
           · exact bA
           refine pure_ (i := 6) (N := some 40) (v := ?_) (a' := ?_) #[true, true, true, false, true, true, true, false, false, false] rfl rfl (any_of HT_.out (by kernel_rfl)) (fun _ _ _ h => h) (Or.inl ⟨by rfl, ?_⟩) ?_ ?_
           rotate_left
           ·
            intro w'
            go_simp
            with_reducible rfl
           rotate_left
           · exact bA
           refine take_ (i := 3) (N := some 37) (v := ?_) (a' := ?_) #[true, true, true, true, true, true, true, false, false, false] rfl rfl (take_ofW HT_.out HW_.out (by kernel_rfl)) (fun _ _ _ h => h) (Or.inl ⟨by rfl, ?_⟩) hHeld ?_ ?_
           rotate_left
           ·
            rintro w' ⟨s0, s1, s2, s3, s4, s5⟩
            (try simp only [add_plain] at s0 s1 s2 s3 s4 s5)
            go_simp
            with_reducible rfl
           rotate_left
           · exact bA
           refine take_ (i := 7) (N := some 41) (v := ?_) (a' := ?_) #[true, true, true, true, true, true, true, true, false, false] rfl rfl (take_ofW HT_.out HW_.out (by kernel_rfl)) (fun _ _ _ h => h) (Or.inl ⟨by rfl, ?_⟩) hHeld ?_ ?_
           rotate_left
           ·
            rintro w' ⟨s0, s1, s2, s3, s4, s5⟩
            (try simp only [add_plain] at s0 s1 s2 s3 s4 s5)
            go_simp
            with_reducible rfl
           rotate_left
           · exact bA
           refine one_ (i := 8) (N := some 42) #[true, true, true, true, true, true, true, true, true, false] rfl rfl (one_of HT_.out (by kernel_rfl)) (by decide) (fun K hK => ?_)
           refine goes_ Try.func32 (by kernel_rfl) rfl #[.agg #[.string ((rd_T25 l0 a1).f0), .int .u64 ((rd_T25 l0 a1).f1), .int .u64 ((rd_T25 l0 a1).f2)], .agg #[.string ((rd_T25 l0 x5_14).f0), .int .u64 ((rd_T25 l0 x5_14).f1), .int .u64 ((rd_T25 l0 x5_14).f2)]] (by rfl) rfl rfl (by (try simp only [List.map_toArray, List.map_cons, List.map_nil]); first | done | rfl | (simp only [List.length_drop, List.length_take]; rfl)) ?_
           with_reducible refine (samphireref10_Cmp.calls ((rd_T25 l0 a1).f0) ((rd_T25 l0 a1).f1) ((rd_T25 l0 a1).f2) ((rd_T25 l0 x5_14).f0) ((rd_T25 l0 x5_14).f1) ((rd_T25 l0 x5_14).f2) t296 _ A21.out).mono ?_
           rintro e w28 ⟨rfl, hb⟩
           have HS0_ := (hb.cell (World.block_lt_of_cell? _ _ (hHeld.1))).trans (hHeld.1)
           have HS1_ := (hb.cell (World.block_lt_of_cell? _ _ (hHeld.2.1))).trans (hHeld.2.1)
           have HS2_ := (hb.cell (World.block_lt_of_cell? _ _ (hHeld.2.2.1))).trans (hHeld.2.2.1)
           have HS3_ := (hb.cell (World.block_lt_of_cell? _ _ (hHeld.2.2.2.1))).trans (hHeld.2.2.2.1)
           have HS4_ := (hb.cell (World.block_lt_of_cell? _ _ (hHeld.2.2.2.2.1))).trans (hHeld.2.2.2.2.1)
           have HS5_ := (hb.cell (World.block_lt_of_cell? _ _ (hHeld.2.2.2.2.2))).trans (hHeld.2.2.2.2.2)
           refine ⟨_, rfl, ?_⟩
           have n0_ := Aside0.mk (Kd.V_below (by (with_reducible repeat (first | apply Kd.V_alloc | apply Kd.V_drewN | apply Kd.V_drew)); exact HO_0.out) hb)
           have n1_ := Aside0.mk (below_step (bW HB.out) hb)
           clear HO_0 HB
           have HO_0 := n0_
           have HB := n1_
           clear n0_ n1_
           (try clear hb)
           (try clear hb2)
           (try clear hk)
           (try clear hi)
           refine hK.out _ _ ⟨HS0_, HS1_, HS2_, HS3_, HS4_, HS5_⟩ (fun hHeld => ?_)
           clear hK K
           refine norm_ (a' := ?_) ?_ ?_
           rotate_left
           ·
            show Act.put _ (some 42) _ = _
            simp only [Act.put, List.setIfInBounds_toArray, List.set_cons_zero, List.set_cons_succ, i64_w, i32_w]
            rfl
           refine pure_ (i := 9) (N := some 43) (v := ?_) (a' := ?_) #[true, true, true, true, true, true, true, true, true, true] rfl rfl (any_of HT_.out (by kernel_rfl)) (fun _ _ _ h => h) (Or.inl ⟨by rfl, ?_⟩) ?_ ?_
           rotate_left
           ·
            intro w'
            go_simp
            with_reducible rfl
           rotate_left
           · exact bA
           refine done_ (done_of HT_.out (by kernel_rfl)) ?_
           try go_wp2_with (first | ((with_reducible refine gate_callee (f := 34) rfl ?_); refine goesL_ (some 48) rfl rfl Try.func34 (by kernel_rfl) rfl #[.slice (some ad294) l0.length c0, .int .i64 a1, .int .i64 x5_14] rfl (by (try simp only [List.map_toArray, List.map_cons, List.map_nil]); first | done | rfl | (simp only [List.length_drop, List.length_take]; rfl)) ?_; (with_reducible refine (samphireref11_swap.calls _ _ l0 a1 x5_14 t297 _ ?side1 ?side2 A25.out).mono ?_); (case side1 => repeat (first | exact (Kd.V_reads' HO_0.out).2.2 | (with_reducible refine Kd.C_alloc ?_ _) | (with_reducible refine Kd.C_drewN ?_ _) | (with_reducible refine Kd.C_drew ?_))); (case side2 => exact (Kd.V_reads' HO_0.out).2.1); rintro e w29 ⟨v298, rfl, ho0, hb⟩; refine ⟨_, rfl, ?_⟩; have n0_ := Aside0.mk (Kd.V_elder' (by (with_reducible repeat (first | apply Kd.V_alloc | apply Kd.V_drewN | apply Kd.V_drew)); exact HO_0.out) (Kd.R_base ho0) hb); have n1_ := Aside0.mk (Kd.R_lower (Kd.R_newM (M := fun k_ => (w.heap.size ≤ k_)) ho0 (below_size (bW HB.out)) (fun k_ h_ => h_)) (below_size (bW HB.out))); have n2_ := Aside0.mk (below_step (bW HB.out) hb); clear HO_0 HB; have HO_0 := n0_; have HO299 := n1_; have HB := n2_; clear n0_ n1_ n2_; (try clear hb); (try clear hb2); (try clear hk); (try clear hi); (try clear ho0); obtain ⟨Ao30, co30, eo30⟩ := Kd.R_slice HO299.out; subst eo30) | ((with_reducible refine gate_callee (f := 36) rfl ?_); refine goesL_ (some 50) rfl rfl Try.func36 (by kernel_rfl) rfl #[.slice Ao30 t297.length co30, .int .i64 x5_14] rfl (by (try simp only [List.map_toArray, List.map_cons, List.map_nil]); first | done | rfl | (simp only [List.length_drop, List.length_take]; rfl)) ?_; (with_reducible refine (ih kj14 (by have := HJ3.out; have := HJ14.out; omega) (fun k_ => some k_ = (.slice Ao30 t297.length co30 : Value).ownBlock) _ _ t297 x5_14 t300 _ ?side1 A26.out).mono ?_); (case side1 => exact Kd.R_V (Kd.R_tight rfl (HO299.out))); rintro e w31 ⟨v301, rfl, ho0, hb⟩; refine ⟨_, rfl, ?_⟩; have n0_ := Aside0.mk (Kd.V_below (by (with_reducible repeat (first | apply Kd.V_alloc | apply Kd.V_drewN | apply Kd.V_drew)); exact HO_0.out) hb); have n1_ := Aside0.mk (Kd.R_below (by (with_reducible repeat (first | apply Kd.R_alloc | apply Kd.R_drewN | apply Kd.R_drew)); exact HO299.out) hb); have n2_ := Aside0.mk (Kd.V_lower (Kd.V_mono (ok' := fun k_ => (P0_ k_ ∨ w.heap.size ≤ k_)) ho0 (fun k_ hk_ => Or.elim hk_ (fun hs_ => (.inr (((HO299.out).1 k_ hs_.symm).1))) (fun hn_ => (.inr (Nat.le_trans (below_size (bW HB.out)) hn_))))) (below_size (bW HB.out))); have n3_ := Aside0.mk (below_step (bW HB.out) hb); clear HO_0 HO299 HB; have HO_0 := n0_; have HO299 := n1_; have HO302 := n2_; have HB := n3_; clear n0_ n1_ n2_ n3_; (try clear hb); (try clear hb2); (try clear hk); (try clear hi); (try clear ho0)))
           go_ret
           exact ⟨_, by first | rfl | (simp [errW_none, errW_some] <;> rfl) | (simp [*, errW_none, errW_some] <;> rfl), by (with_reducible repeat (first | apply Kd.V_alloc | apply Kd.V_drewN | apply Kd.V_drew)); exact HO302.out, by repeat (first | (with_reducible first | exact HB.out | apply below_alloc | apply pw_below_drewN | apply below_drew1) | exact HB.out)⟩
         ·
          rw [if_neg c20] at H
          exact absurd H (by simp)
        ·
         rw [if_neg c19] at H
         exact absurd H (by simp)
       ·
        rw [if_neg c18] at H
        exact absurd H (by simp)
      ·
       rw [if_neg c17] at H
       exact absurd H (by simp)
end Go.Proofs.Ytobdhjnaglikaaa.Q
