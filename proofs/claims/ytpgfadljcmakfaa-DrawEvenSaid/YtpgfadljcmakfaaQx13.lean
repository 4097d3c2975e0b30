/- Walks of Go functions, each against a plain function over numbers and lists; written by this session's program printx.py over the kit's print; no condition but those that each theorem states. -/
import Derived.Test.YtpgfadljcmakfaaQx0
import Derived.Test.YtpgfadljcmakfaaQx1
import Derived.Test.YtpgfadljcmakfaaQx5
namespace Go.Proofs.Ytpgfadljcmakfaa.Q
open Go.RowKit Go.Proofs.YtpgfadljcmakfaaW.PrintWords Go.Proofs.YtpgfadljcmakfaaW.PrintLast Go.Proofs.YtpgfadljcmakfaaW.PrintMore
attribute [local go_sem] max2_int min2_int max_two min_two max_three min_three max_four min_four   -- for this text's walks alone
set_option linter.unusedVariables false
set_option linter.unusedSimpArgs false

/-! ### samphirelaw07_DrawEven: function 4 -/
mutual
def samphirelaw07_DrawEven.l0 : Nat → Int → Int → Int → Option (Bool)
  | 0, _, _, _ => none
  | k + 1, x1, x5, x6 => if x6 < x5 then (samphirelaw07_DrawEven.l0 k x1 x5 (IntKind.u64.wrap (2 * x6))) else (if 0 ≤ x5 then (if (x5 : Int).toNat ≤ 35184372088832 then (samphirelaw07_DrawEven.l1 k x1 x5 x6 (List.replicate (x5 : Int).toNat 0) x6 0) else (none)) else (none))
def samphirelaw07_DrawEven.l1 : Nat → Int → Int → Int → List Int → Int → Int → Option (Bool)
  | 0, _, _, _, _, _, _ => none
  | k + 1, x1, x5, x6, x7, x25, x26 => if x26 < x25 then ((draw_Below.f k (([Go.bits .or .u64 (Go.bits .andNot .u64 x1 (IntKind.u64.wrap (x6 - 1))) x26, Go.bits .andNot .u64 x1 (IntKind.u64.wrap (x6 - 1))] : List Int)) 0 x5).bind fun bt469 => (if bt469.2.2.2 = 0 then (samphirelaw07_DrawEven.j2 k x1 x5 x6 x7 x26 bt469.1 x25 x26 (decide (bt469.1 ≥ x5)) bt469.2.1 bt469.2.2.1) else (samphirelaw07_DrawEven.j2 k x1 x5 x6 x7 x26 bt469.1 x25 x26 true bt469.2.1 bt469.2.2.1))) else (samphirelaw07_DrawEven.l2 k x7 (x7.length : Int) 0)
def samphirelaw07_DrawEven.j2 : Nat → Int → Int → Int → List Int → Int → Int → Int → Int → Bool → List Int → Int → Option (Bool)
  | 0, _, _, _, _, _, _, _, _, _, _, _ => none
  | k + 1, x1, x5, x6, x7, x8, x9, x25, x26, x53, x476000, x476001 => if x53 = true then (some false) else (if x5 > 1 then (if x476001 = 1 then (if x5 = 1 then (samphirelaw07_DrawEven.j3 k x1 x5 x6 x7 x9 x25 x26 (x476001 != 0) x476000 x476001) else (samphirelaw07_DrawEven.j3 k x1 x5 x6 x7 x9 x25 x26 false x476000 x476001)) else (if x476001 = 2 then (if x8 < x5 then (samphirelaw07_DrawEven.j3 k x1 x5 x6 x7 x9 x25 x26 true x476000 x476001) else (if x9 = 0 then (if x5 = 1 then (samphirelaw07_DrawEven.j3 k x1 x5 x6 x7 x9 x25 x26 (x476001 != 0) x476000 x476001) else (samphirelaw07_DrawEven.j3 k x1 x5 x6 x7 x9 x25 x26 false x476000 x476001)) else (samphirelaw07_DrawEven.j3 k x1 x5 x6 x7 x9 x25 x26 true x476000 x476001))) else (samphirelaw07_DrawEven.j3 k x1 x5 x6 x7 x9 x25 x26 true x476000 x476001))) else (if x5 = 1 then (samphirelaw07_DrawEven.j3 k x1 x5 x6 x7 x9 x25 x26 (x476001 != 0) x476000 x476001) else (samphirelaw07_DrawEven.j3 k x1 x5 x6 x7 x9 x25 x26 false x476000 x476001)))
def samphirelaw07_DrawEven.j3 : Nat → Int → Int → Int → List Int → Int → Int → Int → Bool → List Int → Int → Option (Bool)
  | 0, _, _, _, _, _, _, _, _, _, _ => none
  | k + 1, x1, x5, x6, x7, x9, x25, x26, x83, x476000, x476001 => if x83 = true then (some false) else (if x476001 < 2 then (if 0 ≤ x9 then (if x9 < (x7.length : Int) then (samphirelaw07_DrawEven.l1 k x1 x5 x6 (x7.set (x9 : Int).toNat (wrap64 ((rd x7 x9) + 1))) x25 (IntKind.u64.wrap (x26 + 1))) else (none)) else (none)) else (samphirelaw07_DrawEven.l1 k x1 x5 x6 x7 x25 (IntKind.u64.wrap (x26 + 1))))
def samphirelaw07_DrawEven.l2 : Nat → List Int → Int → Int → Option (Bool)
  | 0, _, _, _ => none
  | k + 1, x94, x95, x96 => if x96 < x95 then (if 0 ≤ x96 then (if x96 < (x94.length : Int) then (if (rd x94 x96) = 1 then (samphirelaw07_DrawEven.l2 k x94 x95 (wrap64 (x96 + 1))) else (some false)) else (none)) else (none)) else ((samphirelaw07_awake.f k).bind fun t479 => (some t479))
end
def samphirelaw07_DrawEven.f (k : Nat) (a0 : Int) (a1 : Int) : Option (Bool) := samphirelaw07_DrawEven.l0 k a1 (IntKind.u64.wrap (1 + (IntKind.u64.wrap (Int.tmod a0 4096)))) 1
theorem samphirelaw07_DrawEven.mono_l : ∀ k, (∀ y0 y1 y2, LeO (samphirelaw07_DrawEven.l0 k y0 y1 y2) (samphirelaw07_DrawEven.l0 (k + 1) y0 y1 y2)) ∧ (∀ y0 y1 y2 y3 y4 y5, LeO (samphirelaw07_DrawEven.l1 k y0 y1 y2 y3 y4 y5) (samphirelaw07_DrawEven.l1 (k + 1) y0 y1 y2 y3 y4 y5)) ∧ (∀ y0 y1 y2 y3 y4 y5 y6 y7 y8 y9 y10, LeO (samphirelaw07_DrawEven.j2 k y0 y1 y2 y3 y4 y5 y6 y7 y8 y9 y10) (samphirelaw07_DrawEven.j2 (k + 1) y0 y1 y2 y3 y4 y5 y6 y7 y8 y9 y10)) ∧ (∀ y0 y1 y2 y3 y4 y5 y6 y7 y8 y9, LeO (samphirelaw07_DrawEven.j3 k y0 y1 y2 y3 y4 y5 y6 y7 y8 y9) (samphirelaw07_DrawEven.j3 (k + 1) y0 y1 y2 y3 y4 y5 y6 y7 y8 y9)) ∧ (∀ y0 y1 y2, LeO (samphirelaw07_DrawEven.l2 k y0 y1 y2) (samphirelaw07_DrawEven.l2 (k + 1) y0 y1 y2))
  | 0 => ⟨fun _ _ _ r h => by simp [samphirelaw07_DrawEven.l0] at h, fun _ _ _ _ _ _ r h => by simp [samphirelaw07_DrawEven.l1] at h, fun _ _ _ _ _ _ _ _ _ _ _ r h => by simp [samphirelaw07_DrawEven.j2] at h, fun _ _ _ _ _ _ _ _ _ _ r h => by simp [samphirelaw07_DrawEven.j3] at h, fun _ _ _ r h => by simp [samphirelaw07_DrawEven.l2] at h⟩
  | k + 1 => by
    obtain ⟨ih0, ih1, ih2, ih3, ih4⟩ := samphirelaw07_DrawEven.mono_l k
    refine ⟨?_, ?_, ?_, ?_, ?_⟩
    · intro y0 y1 y2
      unfold samphirelaw07_DrawEven.l0
      repeat' first
      | (with_reducible exact ih0 _ _ _)
      | (with_reducible exact ih1 _ _ _ _ _ _)
      | (with_reducible exact ih2 _ _ _ _ _ _ _ _ _ _ _)
      | (with_reducible exact ih3 _ _ _ _ _ _ _ _ _ _)
      | (with_reducible exact ih4 _ _ _)
      | (with_reducible exact draw_Below.mono _ _ _ _)
      | (with_reducible exact samphirelaw07_awake.mono _)
      | (with_reducible exact LeO.refl _)
      | (with_reducible exact LeO.none _)
      | (with_reducible refine LeO.ite ?_ ?_)
      | (with_reducible refine LeO.bind ?_ (fun _ => ?_))
      | exact ih0 _ _ _
      | exact ih1 _ _ _ _ _ _
      | exact ih2 _ _ _ _ _ _ _ _ _ _ _
      | exact ih3 _ _ _ _ _ _ _ _ _ _
      | exact ih4 _ _ _
      | exact draw_Below.mono _ _ _ _
      | exact samphirelaw07_awake.mono _
      | exact LeO.none _
      | refine LeO.ite ?_ ?_
      | refine LeO.bind ?_ (fun _ => ?_)
    · intro y0 y1 y2 y3 y4 y5
      unfold samphirelaw07_DrawEven.l1
      repeat' first
      | (with_reducible exact ih0 _ _ _)
      | (with_reducible exact ih1 _ _ _ _ _ _)
      | (with_reducible exact ih2 _ _ _ _ _ _ _ _ _ _ _)
      | (with_reducible exact ih3 _ _ _ _ _ _ _ _ _ _)
      | (with_reducible exact ih4 _ _ _)
      | (with_reducible exact draw_Below.mono _ _ _ _)
      | (with_reducible exact samphirelaw07_awake.mono _)
      | (with_reducible exact LeO.refl _)
      | (with_reducible exact LeO.none _)
      | (with_reducible refine LeO.ite ?_ ?_)
      | (with_reducible refine LeO.bind ?_ (fun _ => ?_))
      | exact ih0 _ _ _
      | exact ih1 _ _ _ _ _ _
      | exact ih2 _ _ _ _ _ _ _ _ _ _ _
      | exact ih3 _ _ _ _ _ _ _ _ _ _
      | exact ih4 _ _ _
      | exact draw_Below.mono _ _ _ _
      | exact samphirelaw07_awake.mono _
      | exact LeO.none _
      | refine LeO.ite ?_ ?_
      | refine LeO.bind ?_ (fun _ => ?_)
    · intro y0 y1 y2 y3 y4 y5 y6 y7 y8 y9 y10
      unfold samphirelaw07_DrawEven.j2
      repeat' first
      | (with_reducible exact ih0 _ _ _)
      | (with_reducible exact ih1 _ _ _ _ _ _)
      | (with_reducible exact ih2 _ _ _ _ _ _ _ _ _ _ _)
      | (with_reducible exact ih3 _ _ _ _ _ _ _ _ _ _)
      | (with_reducible exact ih4 _ _ _)
      | (with_reducible exact draw_Below.mono _ _ _ _)
      | (with_reducible exact samphirelaw07_awake.mono _)
      | (with_reducible exact LeO.refl _)
      | (with_reducible exact LeO.none _)
      | (with_reducible refine LeO.ite ?_ ?_)
      | (with_reducible refine LeO.bind ?_ (fun _ => ?_))
      | exact ih0 _ _ _
      | exact ih1 _ _ _ _ _ _
      | exact ih2 _ _ _ _ _ _ _ _ _ _ _
      | exact ih3 _ _ _ _ _ _ _ _ _ _
      | exact ih4 _ _ _
      | exact draw_Below.mono _ _ _ _
      | exact samphirelaw07_awake.mono _
      | exact LeO.none _
      | refine LeO.ite ?_ ?_
      | refine LeO.bind ?_ (fun _ => ?_)
    · intro y0 y1 y2 y3 y4 y5 y6 y7 y8 y9
      unfold samphirelaw07_DrawEven.j3
      repeat' first
      | (with_reducible exact ih0 _ _ _)
      | (with_reducible exact ih1 _ _ _ _ _ _)
      | (with_reducible exact ih2 _ _ _ _ _ _ _ _ _ _ _)
      | (with_reducible exact ih3 _ _ _ _ _ _ _ _ _ _)
      | (with_reducible exact ih4 _ _ _)
      | (with_reducible exact draw_Below.mono _ _ _ _)
      | (with_reducible exact samphirelaw07_awake.mono _)
      | (with_reducible exact LeO.refl _)
      | (with_reducible exact LeO.none _)
      | (with_reducible refine LeO.ite ?_ ?_)
      | (with_reducible refine LeO.bind ?_ (fun _ => ?_))
      | exact ih0 _ _ _
      | exact ih1 _ _ _ _ _ _
      | exact ih2 _ _ _ _ _ _ _ _ _ _ _
      | exact ih3 _ _ _ _ _ _ _ _ _ _
      | exact ih4 _ _ _
      | exact draw_Below.mono _ _ _ _
      | exact samphirelaw07_awake.mono _
      | exact LeO.none _
      | refine LeO.ite ?_ ?_
      | refine LeO.bind ?_ (fun _ => ?_)
    · intro y0 y1 y2
      unfold samphirelaw07_DrawEven.l2
      repeat' first
      | (with_reducible exact ih0 _ _ _)
      | (with_reducible exact ih1 _ _ _ _ _ _)
      | (with_reducible exact ih2 _ _ _ _ _ _ _ _ _ _ _)
      | (with_reducible exact ih3 _ _ _ _ _ _ _ _ _ _)
      | (with_reducible exact ih4 _ _ _)
      | (with_reducible exact draw_Below.mono _ _ _ _)
      | (with_reducible exact samphirelaw07_awake.mono _)
      | (with_reducible exact LeO.refl _)
      | (with_reducible exact LeO.none _)
      | (with_reducible refine LeO.ite ?_ ?_)
      | (with_reducible refine LeO.bind ?_ (fun _ => ?_))
      | exact ih0 _ _ _
      | exact ih1 _ _ _ _ _ _
      | exact ih2 _ _ _ _ _ _ _ _ _ _ _
      | exact ih3 _ _ _ _ _ _ _ _ _ _
      | exact ih4 _ _ _
      | exact draw_Below.mono _ _ _ _
      | exact samphirelaw07_awake.mono _
      | exact LeO.none _
      | refine LeO.ite ?_ ?_
      | refine LeO.bind ?_ (fun _ => ?_)
theorem samphirelaw07_DrawEven.mono : ∀ a0 a1 k, LeO (samphirelaw07_DrawEven.f k a0 a1) (samphirelaw07_DrawEven.f (k + 1) a0 a1) := by
  intro a0 a1 k
  obtain ⟨ih0, ih1, ih2, ih3, ih4⟩ := samphirelaw07_DrawEven.mono_l k
  unfold samphirelaw07_DrawEven.f
  repeat' first
      | (with_reducible exact ih0 _ _ _)
      | (with_reducible exact ih1 _ _ _ _ _ _)
      | (with_reducible exact ih2 _ _ _ _ _ _ _ _ _ _ _)
      | (with_reducible exact ih3 _ _ _ _ _ _ _ _ _ _)
      | (with_reducible exact ih4 _ _ _)
      | (with_reducible exact draw_Below.mono _ _ _ _)
      | (with_reducible exact samphirelaw07_awake.mono _)
      | (with_reducible exact LeO.refl _)
      | (with_reducible exact LeO.none _)
      | (with_reducible refine LeO.ite ?_ ?_)
      | (with_reducible refine LeO.bind ?_ (fun _ => ?_))
      | exact ih0 _ _ _
      | exact ih1 _ _ _ _ _ _
      | exact ih2 _ _ _ _ _ _ _ _ _ _ _
      | exact ih3 _ _ _ _ _ _ _ _ _ _
      | exact ih4 _ _ _
      | exact draw_Below.mono _ _ _ _
      | exact samphirelaw07_awake.mono _
      | exact LeO.none _
      | refine LeO.ite ?_ ?_
      | refine LeO.bind ?_ (fun _ => ?_)
set_option maxHeartbeats 8000000 in
set_option maxRecDepth 100000 in
theorem samphirelaw07_DrawEven.calls (k : Nat) (a0 : Int) (a1 : Int) (r : Bool) (w : World) (h : samphirelaw07_DrawEven.f k a0 a1 = some r) :
    Calls Try.prog 4 #[.int .u16 a0, .int .u64 a1] w fun e w' => e = .returned (.bool r) ∧ Below w.heap.size w w' := by
  have hu28 := Try.underlying28
  have HB := Aside0.mk (Below.refl w.heap.size w)
  have H : (samphirelaw07_DrawEven.l0 k a1 (IntKind.u64.wrap (1 + (IntKind.u64.wrap (Int.tmod a0 4096)))) 1) = some r := h
  clear h
  have H' := Aside0.mk H
  clear H
  go_enter Try.func4, Try.ntmps4
  go_wp2
  go_loopg [6] k (fun kq v6 w' => ∃ (x6_1 : Int), v6 = .int .u64 x6_1 ∧ Aside0 (samphirelaw07_DrawEven.l0 kq a1 (IntKind.u64.wrap (1 + (IntKind.u64.wrap (Int.tmod a0 4096)))) x6_1 = some r) ∧ Aside0 (kq ≤ k) ∧ Aside0 (Below w.heap.size w w'))
  case atStart => exact ⟨(1), (by first | rfl | (simp; done) | (simp [*]; done)), H', ⟨Nat.le_refl _⟩, ⟨by repeat (first | (with_reducible first | exact HB.out | apply below_alloc | apply pw_below_drewN | apply below_drew1) | exact HB.out)⟩⟩
  case round =>
    clear H'
    try clear p2
    obtain ⟨x6_1, rfl, HA, HK1, HB⟩ := hrel
    cases gk with
    | zero => exact absurd HA.out (by simp [samphirelaw07_DrawEven.l0])
    | succ k1 =>
      have H := HA.out
      clear HA
      simp only [samphirelaw07_DrawEven.l0] at H
      by_cases c3 : x6_1 < (IntKind.u64.wrap (1 + (IntKind.u64.wrap (Int.tmod a0 4096))))
      · rw [if_pos c3] at H
        have c3b0 : decide (x6_1 < (IntKind.u64.wrap (1 + (IntKind.u64.wrap (Int.tmod a0 4096))))) = true := decide_eq_true c3
        clear c3
        have H' := Aside0.mk H
        clear H
        go_wp2
        go_roundg k1
        case measure => have := HK1.out; omega
        case rel => exact ⟨(IntKind.u64.wrap (2 * x6_1)), (by first | rfl | (simp; done) | (simp [*]; done)), H', ⟨by have := HK1.out; omega⟩, ⟨by repeat (first | (with_reducible first | exact HB.out | apply below_alloc | apply pw_below_drewN | apply below_drew1) | exact HB.out)⟩⟩
      · rw [if_neg c3] at H
        have c3b0 : decide (x6_1 < (IntKind.u64.wrap (1 + (IntKind.u64.wrap (Int.tmod a0 4096))))) = false := decide_eq_false c3
        clear c3
        obtain ⟨ji4, hji4⟩ : ∃ j_ : Int, (IntKind.u64.wrap (1 + (IntKind.u64.wrap (Int.tmod a0 4096)))) = j_ := ⟨_, rfl⟩
        replace H : (if 0 ≤ (ji4) then (if ((ji4) : Int).toNat ≤ 35184372088832 then (samphirelaw07_DrawEven.l1 k1 a1 (ji4) x6_1 (List.replicate ((ji4) : Int).toNat 0) x6_1 0) else (none)) else (none)) = some r := by first | (rw [hji4] at H; exact H) | (simp only [hji4] at H ⊢; exact H)
        (try rw [hji4])
        (try rw [hji4] at c3b0)
        by_cases c5 : 0 ≤ (ji4)
        · rw [if_pos c5] at H
          have c5b0 := eq_true c5
          have c5b1 : decide (0 ≤ (ji4)) = true := decide_eq_true c5
          clear c5
          by_cases c6 : ((ji4) : Int).toNat ≤ 35184372088832
          · rw [if_pos c6] at H
            have c6b0 := eq_true c6
            have c6b1 : decide (((ji4) : Int).toNat ≤ 35184372088832) = true := decide_eq_true c6
            clear c6
            obtain ⟨y463, hy463⟩ : ∃ y_ : List Int, y_ = (List.replicate ((ji4) : Int).toNat 0) := ⟨_, rfl⟩
            replace H : (samphirelaw07_DrawEven.l1 k1 a1 (ji4) x6_1 y463 x6_1 0) = some r := by first | (rw [hy463]; with_reducible exact H) | (have H2_ := (Option.bind_some _ _).symm.trans H; rw [hy463]; with_reducible exact H2_) | (have H2_ := (Option.bind_some _ _).symm.trans H; with_reducible exact H2_) | with_reducible exact H | (rw [hy463]; exact H) | exact H
            have Ny463 := Aside0.mk hy463
            clear hy463
            have H' := Aside0.mk H
            clear H
            go_wp2_with (first | ((with_reducible refine gate_dst (N := 24) rfl ?_); refine Kd.R_make2 (Kd.int .i64) _ 3 rfl (N := 24) rfl 43 _ _ rfl .u64 .u64 (ji4) (ji4) rfl rfl Try.underlying43 (.int .i64 0) 8 info3 rfl (by decide) (by omega) 0 (ok := fun _ => True) (okp := fun _ => True) rfl (fun _ hk => hk) trivial (by first | decide | omega | exact of_decide_eq_true (by first | (with_reducible assumption) | assumption)) (Int.le_refl _) (Nat.le_trans (Nat.mul_le_mul_right _ (of_decide_eq_true (by first | (with_reducible assumption) | assumption) : ((ji4) : Int).toNat ≤ 35184372088832)) (by omega)) (Below.refl _ _) (Nat.le_refl _) ?_; intro v464 w7 ho8 hb hg_ hnew_; clear hg_ hnew_; (first | rw [← Ny463.out] at ho8 | (simp only [Int.reduceToNat] at ho8; rw [← Ny463.out] at ho8)); have n0_ := Aside0.mk (Kd.R_lower ho8 (below_size (by repeat (first | (with_reducible first | exact HB.out | apply below_alloc | apply pw_below_drewN | apply below_drew1) | exact HB.out)))); have n1_ := Aside0.mk (below_step (by repeat (first | (with_reducible first | exact HB.out | apply below_alloc | apply pw_below_drewN | apply below_drew1) | exact HB.out)) hb); clear HB; have HO465 := n0_; have HB := n1_; clear n0_ n1_; clear hb ho8))
            go_loopg [26] k1 (fun kq v26 w' => ∃ (x7_2 : List Int) (x26_2 : Int), v26 = .int .u64 x26_2 ∧ Aside0 (samphirelaw07_DrawEven.l1 kq a1 (ji4) x6_1 x7_2 x6_1 x26_2 = some r) ∧ Aside0 (kq ≤ k1) ∧ Aside0 (Kd.R (Kd.int .i64) 3 w' w.heap.size (fun _ => True) v464 x7_2) ∧ Aside0 (Below w.heap.size w w'))
            case atStart => exact ⟨(y463), (0), (by first | rfl | (simp; done) | (simp [*]; done)), H', ⟨Nat.le_refl _⟩, ⟨by (with_reducible repeat (first | apply Kd.R_alloc | apply Kd.R_drewN | apply Kd.R_drew)); exact HO465.out⟩, ⟨by repeat (first | (with_reducible first | exact HB.out | apply below_alloc | apply pw_below_drewN | apply below_drew1) | exact HB.out)⟩⟩
            case round =>
              clear H'
              try clear p2
              try clear c3
              try clear c3b0
              try clear c4
              try clear c5
              try clear c5b0
              try clear c5b1
              try clear c6
              try clear c6b0
              try clear c6b1
              try clear p2
              obtain ⟨x7_2, x26_2, rfl, HA, HK2, HO_7, HB⟩ := hrel
              cases gk with
              | zero => exact absurd HA.out (by simp [samphirelaw07_DrawEven.l1])
              | succ k2 =>
                have H := HA.out
                clear HA
                simp only [samphirelaw07_DrawEven.l1] at H
                by_cases c9 : x26_2 < x6_1
                · rw [if_pos c9] at H
                  have c9b0 : decide (x26_2 < x6_1) = true := decide_eq_true c9
                  clear c9
                  obtain ⟨y466, hy466⟩ : ∃ y_ : List Int, y_ = (([Go.bits .or .u64 (Go.bits .andNot .u64 a1 (IntKind.u64.wrap (x6_1 - 1))) x26_2, Go.bits .andNot .u64 a1 (IntKind.u64.wrap (x6_1 - 1))] : List Int)) := ⟨_, rfl⟩
                  replace H : ((draw_Below.f k2 y466 0 (ji4)).bind fun bt469 => (if bt469.2.2.2 = 0 then (samphirelaw07_DrawEven.j2 k2 a1 (ji4) x6_1 x7_2 x26_2 bt469.1 x6_1 x26_2 (decide (bt469.1 ≥ (ji4))) bt469.2.1 bt469.2.2.1) else (samphirelaw07_DrawEven.j2 k2 a1 (ji4) x6_1 x7_2 x26_2 bt469.1 x6_1 x26_2 true bt469.2.1 bt469.2.2.1))) = some r := by first | (rw [hy466]; with_reducible exact H) | (have H2_ := (Option.bind_some _ _).symm.trans H; rw [hy466]; with_reducible exact H2_) | (have H2_ := (Option.bind_some _ _).symm.trans H; with_reducible exact H2_) | with_reducible exact H | (rw [hy466]; exact H) | exact H
                  have Ny466 := Aside0.mk hy466
                  clear hy466
                  replace H := Option.bind_eq_some_iff.mp H
                  obtain ⟨⟨t469, t470, t473, t474⟩, A100, H⟩ := H
                  replace H : (if t474 = 0 then (samphirelaw07_DrawEven.j2 k2 a1 (ji4) x6_1 x7_2 x26_2 t469 x6_1 x26_2 (decide (t469 ≥ (ji4))) t470 t473) else (samphirelaw07_DrawEven.j2 k2 a1 (ji4) x6_1 x7_2 x26_2 t469 x6_1 x26_2 true t470 t473)) = some r := H
                  have A10 := Aside0.mk A100
                  clear A100
                  have HC11 := Aside0.mk H
                  clear H
                  go_upto_region 10 with (first | ((with_reducible refine gate_dst (N := 40) rfl ?_); refine Kd.R_lit (Kd.int .u64) _ 23 ?hg (N := 40) ?hd (xs := ([Go.bits .or .u64 (Go.bits .andNot .u64 a1 (IntKind.u64.wrap (x6_1 - 1))) x26_2, Go.bits .andNot .u64 a1 (IntKind.u64.wrap (x6_1 - 1))] : List Int)) (inner := [.int .u64 (Go.bits .or .u64 (Go.bits .andNot .u64 a1 (IntKind.u64.wrap (x6_1 - 1))) x26_2), .int .u64 (Go.bits .andNot .u64 a1 (IntKind.u64.wrap (x6_1 - 1)))]) (ok := fun _ => True) (okp := fun _ => True) ?hr ?hp (fun _ hk => hk) trivial (Below.refl _ _) (Nat.le_refl _) (by simp) ?_; (case hd => rfl); (case hg => rfl); (case hr => first | (go_simp; done) | (go_simp; rfl)); (case hp => exact (Reps.one (show Kd.M (Kd.int .u64) _ _ _ (Go.bits .or .u64 (Go.bits .andNot .u64 a1 (IntKind.u64.wrap (x6_1 - 1))) x26_2) [.int .u64 (Go.bits .or .u64 (Go.bits .andNot .u64 a1 (IntKind.u64.wrap (x6_1 - 1))) x26_2)] from rfl) (Reps.one (show Kd.M (Kd.int .u64) _ _ _ (Go.bits .andNot .u64 a1 (IntKind.u64.wrap (x6_1 - 1))) [.int .u64 (Go.bits .andNot .u64 a1 (IntKind.u64.wrap (x6_1 - 1)))] from rfl) (Reps.none _ _)))); intro v467 w12 ho13 hb hg_ hnew_; clear hg_ hnew_; (first | rw [← Ny466.out] at ho13 | (simp only [Int.reduceToNat] at ho13; rw [← Ny466.out] at ho13)); have n0_ := Aside0.mk (Kd.R_below (by (with_reducible repeat (first | apply Kd.R_alloc | apply Kd.R_drewN | apply Kd.R_drew)); exact HO_7.out) hb); have n1_ := Aside0.mk (Kd.R_lower ho13 (below_size (by repeat (first | (with_reducible first | exact HB.out | apply below_alloc | apply pw_below_drewN | apply below_drew1) | exact HB.out)))); have n2_ := Aside0.mk (below_step (by repeat (first | (with_reducible first | exact HB.out | apply below_alloc | apply pw_below_drewN | apply below_drew1) | exact HB.out)) hb); clear HO_7; clear HB; have HO_7 := n0_; have HO468 := n1_; have HB := n2_; clear n0_ n1_ n2_; clear hb ho13; obtain ⟨Ao14, co14, eo14⟩ := Kd.R_slice HO468.out; subst eo14) | ((with_reducible refine gate_callee (f := 10) rfl ?_); refine goesL_ (some 43) rfl rfl Try.func10 (by kernel_rfl) rfl #[.agg #[.slice Ao14 y466.length co14, .int .i64 0], .int .u64 (ji4)] rfl (by (try simp only [List.map_toArray, List.map_cons, List.map_nil]); first | done | (simp only [hji4]; rfl) | rfl | (simp only [List.length_drop, List.length_take]; rfl)) ?_; (with_reducible refine (draw_Below.calls k2 (fun k_ => some k_ = (.slice Ao14 y466.length co14 : Value).ownBlock) _ _ y466 0 (ji4) t469 t470 t473 t474 _ ?side1 A10.out).mono ?_); (case side1 => exact Kd.R_V (Kd.R_tight rfl (Kd.R_apart' (HO468.out) (Kd.R_typed HO_7.out) (by decide)))); rintro e w15 ⟨v471, rfl, ho0, hb⟩; refine ⟨_, rfl, ?_⟩; have n0_ := Aside0.mk (Kd.R_below (by (with_reducible repeat (first | apply Kd.R_alloc | apply Kd.R_drewN | apply Kd.R_drew)); exact HO_7.out) hb); have n1_ := Aside0.mk (Kd.R_below (by (with_reducible repeat (first | apply Kd.R_alloc | apply Kd.R_drewN | apply Kd.R_drew)); exact HO468.out) hb); have n2_ := Aside0.mk (Kd.V_lower (Kd.V_mono (ok' := fun k_ => some k_ ≠ (v464 : Value).ownBlock) ho0 (fun k_ hk_ => Or.elim hk_ (fun hs_ => ((Kd.R_apart' (HO468.out) (Kd.R_typed HO_7.out) (by decide)).1 k_ hs_.symm).2) (fun hn_ => (Kd.fresh' (Kd.R_lt (by (with_reducible repeat (first | apply Kd.R_alloc | apply Kd.R_drewN | apply Kd.R_drew)); exact HO_7.out)) k_ hn_)))) (below_size (by repeat (first | (with_reducible first | exact HB.out | apply below_alloc | apply pw_below_drewN | apply below_drew1) | exact HB.out)))); have n3_ := Aside0.mk (below_step (by repeat (first | (with_reducible first | exact HB.out | apply below_alloc | apply pw_below_drewN | apply below_drew1) | exact HB.out)) hb); clear HO_7; clear HO468; clear HB; have HO_7 := n0_; have HO468 := n1_; have HO472 := n2_; have HB := n3_; clear n0_ n1_ n2_ n3_; (try clear hb); (try clear hb2); (try clear hk); (try clear hi); (try clear ho0)) | ((with_reducible refine gate_dst (N := 10) rfl ?_); refine box_event ?hg (N := 10) ?hd (cs := #[.slice none 0 0, .int .i64 0]) (t := 28) ?hr ?_; (case hd => rfl); (case hg => rfl); (case hr => first | (go_simp; done) | (go_simp; rfl)); intro gb475 hg w16 hbox hb; have n0_ := Aside0.mk (Kd.R_below (by (with_reducible repeat (first | apply Kd.R_alloc | apply Kd.R_drewN | apply Kd.R_drew)); exact HO_7.out) hb); have n1_ := Aside0.mk (Kd.R_below (by (with_reducible repeat (first | apply Kd.R_alloc | apply Kd.R_drewN | apply Kd.R_drew)); exact HO468.out) hb); have n2_ := Aside0.mk (Kd.V_below (Kd.V_elderB (by (with_reducible repeat (first | apply Kd.V_alloc | apply Kd.V_drewN | apply Kd.V_drew)); exact HO472.out) gb475 (Nat.le_of_eq hg.symm)) hb); have n3_ := Aside0.mk (below_step (by repeat (first | (with_reducible first | exact HB.out | apply below_alloc | apply pw_below_drewN | apply below_drew1) | exact HB.out)) hb); have n4_ := Aside0.mk (hbox); have n5_ := Aside0.mk ((by rw [hg]; exact (below_size (by repeat (first | (with_reducible first | exact HB.out | apply below_alloc | apply pw_below_drewN | apply below_drew1) | exact HB.out))) : w.heap.size ≤ gb475)); have n6_ := Aside0.mk ((by rw [hg]; exact (below_size (by repeat (first | (with_reducible first | exact HB.out | apply below_alloc | apply pw_below_drewN | apply below_drew1) | exact HB.out))) : w.heap.size ≤ gb475)); clear HO_7; clear HO468; clear HO472; clear HB; have HO_7 := n0_; have HO468 := n1_; have HO472 := n2_; have HB := n3_; have BK475 := n4_; have GW475 := n5_; have GE475 := n6_; clear n0_ n1_ n2_ n3_ n4_ n5_ n6_; clear hb hbox hg; obtain ⟨Ao17, co17, eo17⟩ := Kd.V_slice HO472.out; subst eo17; have hcz18_0 : w16.cell? ⟨gb475, 0, none⟩ = some (.slice none 0 0) := (blk_cell BK475.out 0).trans rfl; have hcz18_1 : w16.cell? ⟨gb475, 1, none⟩ = some (.int .i64 0) := (blk_cell BK475.out 1).trans rfl; have hfz18_0 := blk_frozen BK475.out 0; have hfz18_1 := blk_frozen BK475.out 1))
                  (try simp only [Act.put, List.setIfInBounds_toArray, List.set_cons_zero, List.set_cons_succ])
                  go_cut [53] (fun v53 wc => ∃ (kq : Nat) (x53_10 : Bool), v53 = .bool x53_10 ∧ Aside0 (samphirelaw07_DrawEven.j2 kq a1 (ji4) x6_1 x7_2 x26_2 t469 x6_1 x26_2 x53_10 t470 t473 = some r) ∧ Aside0 (kq ≤ k2) ∧ Aside0 (Kd.R (Kd.int .i64) 3 wc w.heap.size (fun _ => True) v464 x7_2) ∧ Aside0 (Kd.V (Kd.int .u64) 23 wc w.heap.size (fun k_ => some k_ ≠ (v464 : Value).ownBlock ∧ k_ ≠ gb475) (.slice Ao17 t470.length co17) t470) ∧ Aside0 (wc.heap[gb475]? = some (.cells #[(.slice Ao17 t470.length co17), .int .i64 t473] 28 (0, 0))) ∧ Aside0 (Below w.heap.size w wc))
                  case first =>
                    have H := HC11.out
                    clear HC11
                    by_cases c19 : t474 = 0
                    · rw [if_pos c19] at H
                      have c19b0 : (t474 == 0) = true := beq_iff_eq.mpr c19
                      have c19b1 : (t474 != 0) = false := bne_eq_false_iff_eq.mpr c19
                      clear c19
                      (first | rw [c19b0] | (simp only [i64_w, i32_w]; rw [c19b0]) | skip)
                      have H' := Aside0.mk H
                      clear H
                      go_wp2
                      go_meet
                      case rel => exact ⟨_, (decide (t469 ≥ (ji4))), (by first | rfl | (simp; done) | (simp only [← hji4] <;> (first | rfl | simp)) | (simp [*]; done)), H', ⟨by have := HK1.out; have := HK2.out; first | omega | exact Nat.le_refl _⟩, ⟨by (with_reducible repeat (first | apply Kd.R_alloc | apply Kd.R_drewN | apply Kd.R_drew)); exact Kd.R_mono (Kd.R_far (p := ⟨gb475, 1, none⟩) (Kd.R_far (p := ⟨gb475, 0, none⟩) (Kd.R_types HO_7.out BK475.out (by decide)) (fun _ hk => hk.2) (.slice Ao17 t470.length co17)) (fun _ hk => hk.2) (.int .i64 t473)) (fun _ hk => trivial)⟩, ⟨by (with_reducible repeat (first | apply Kd.V_alloc | apply Kd.V_drewN | apply Kd.V_drew)); exact Kd.V_mono (Kd.V_far (p := ⟨gb475, 1, none⟩) (Kd.V_far (p := ⟨gb475, 0, none⟩) (Kd.V_mono HO472.out (fun k_ hk => (⟨hk, hk.2⟩ : _ ∧ k_ ≠ gb475))) (fun _ hk => hk.2) (.slice Ao17 t470.length co17)) (fun _ hk => hk.2) (.int .i64 t473)) (fun _ hk => ⟨hk.1.1, hk.1.2⟩)⟩, ⟨by (with_reducible repeat (first | refine blk_drewN ?_ _ | refine blk_drew ?_ | refine blk_alloc ?_ _)); refine blk_put (cs := #[.slice Ao17 t470.length co17, .int .i64 0]) ?_ 1 _ rfl; (with_reducible repeat (first | refine blk_drewN ?_ _ | refine blk_drew ?_ | refine blk_alloc ?_ _)); refine blk_put (cs := #[.slice none 0 0, .int .i64 0]) ?_ 0 _ rfl; (with_reducible repeat (first | refine blk_drewN ?_ _ | refine blk_drew ?_ | refine blk_alloc ?_ _)); exact BK475.out⟩, ⟨by repeat (first | (with_reducible first | exact HB.out | apply below_alloc | apply pw_below_drewN | apply below_drew1 | refine below_set ?_ GE475.out) | exact HB.out)⟩⟩
                    · rw [if_neg c19] at H
                      have c19b0 : (t474 == 0) = false := beq_eq_false_iff_ne.mpr c19
                      have c19b1 : (t474 != 0) = true := bne_iff_ne.mpr c19
                      (first | rw [c19b0] | (simp only [i64_w, i32_w]; rw [c19b0]) | skip)
                      have H' := Aside0.mk H
                      clear H
                      go_wp2
                      go_meet
                      case rel => exact ⟨_, (true), (by first | rfl | (simp; done) | (simp [*]; done)), H', ⟨by have := HK1.out; have := HK2.out; first | omega | exact Nat.le_refl _⟩, ⟨by (with_reducible repeat (first | apply Kd.R_alloc | apply Kd.R_drewN | apply Kd.R_drew)); exact Kd.R_mono (Kd.R_far (p := ⟨gb475, 1, none⟩) (Kd.R_far (p := ⟨gb475, 0, none⟩) (Kd.R_types HO_7.out BK475.out (by decide)) (fun _ hk => hk.2) (.slice Ao17 t470.length co17)) (fun _ hk => hk.2) (.int .i64 t473)) (fun _ hk => trivial)⟩, ⟨by (with_reducible repeat (first | apply Kd.V_alloc | apply Kd.V_drewN | apply Kd.V_drew)); exact Kd.V_mono (Kd.V_far (p := ⟨gb475, 1, none⟩) (Kd.V_far (p := ⟨gb475, 0, none⟩) (Kd.V_mono HO472.out (fun k_ hk => (⟨hk, hk.2⟩ : _ ∧ k_ ≠ gb475))) (fun _ hk => hk.2) (.slice Ao17 t470.length co17)) (fun _ hk => hk.2) (.int .i64 t473)) (fun _ hk => ⟨hk.1.1, hk.1.2⟩)⟩, ⟨by (with_reducible repeat (first | refine blk_drewN ?_ _ | refine blk_drew ?_ | refine blk_alloc ?_ _)); refine blk_put (cs := #[.slice Ao17 t470.length co17, .int .i64 0]) ?_ 1 _ rfl; (with_reducible repeat (first | refine blk_drewN ?_ _ | refine blk_drew ?_ | refine blk_alloc ?_ _)); refine blk_put (cs := #[.slice none 0 0, .int .i64 0]) ?_ 0 _ rfl; (with_reducible repeat (first | refine blk_drewN ?_ _ | refine blk_drew ?_ | refine blk_alloc ?_ _)); exact BK475.out⟩, ⟨by repeat (first | (with_reducible first | exact HB.out | apply below_alloc | apply pw_below_drewN | apply below_drew1 | refine below_set ?_ GE475.out) | exact HB.out)⟩⟩
                  case rest =>
                    clear HC11
                    try clear c1
                    try clear p2
                    try clear c3
                    try clear c3b0
                    try clear c4
                    try clear c5
                    try clear c5b0
                    try clear c5b1
                    try clear c6
                    try clear c6b0
                    try clear c6b1
                    try clear c9
                    try clear c9b0
                    try clear c10
                    try clear c19
                    try clear c19b0
                    try clear c19b1
                    try clear hcz18_0
                    try clear hcz18_1
                    try clear hfz18_0
                    try clear hfz18_1
                    try clear p2
                    obtain ⟨kq, x53_10, rfl, HA, HJ10, HO_7, HO_476000, BK475, HB⟩ := hcut
                    cases kq with
                    | zero => exact absurd HA.out (by simp [samphirelaw07_DrawEven.j2])
                    | succ kj10 =>
                      have H := HA.out
                      clear HA
                      simp only [samphirelaw07_DrawEven.j2] at H
                      by_cases c20 : x53_10 = true
                      · subst c20
                        have H1 : (some false) = some r := by rw [if_pos rfl] at H; exact H
                        clear H
                        have H := H1
                        clear H1
                        obtain rfl := Option.some.inj H
                        go_wp2
                        go_ret
                        exact ⟨by first | rfl | (simp [errW_none, errW_some] <;> rfl) | (simp only [← hji4]; first | rfl | (simp [errW_none, errW_some] <;> rfl)) | (simp [*, errW_none, errW_some] <;> rfl), by repeat (first | (with_reducible first | exact HB.out | apply below_alloc | apply pw_below_drewN | apply below_drew1 | refine below_set ?_ GE475.out) | exact HB.out)⟩
                      · replace c20 := Bool.eq_false_iff.mpr c20
                        subst c20
                        have H1 : (if (ji4) > 1 then (if t473 = 1 then (if (ji4) = 1 then (samphirelaw07_DrawEven.j3 kj10 a1 (ji4) x6_1 x7_2 t469 x6_1 x26_2 (t473 != 0) t470 t473) else (samphirelaw07_DrawEven.j3 kj10 a1 (ji4) x6_1 x7_2 t469 x6_1 x26_2 false t470 t473)) else (if t473 = 2 then (if x26_2 < (ji4) then (samphirelaw07_DrawEven.j3 kj10 a1 (ji4) x6_1 x7_2 t469 x6_1 x26_2 true t470 t473) else (if t469 = 0 then (if (ji4) = 1 then (samphirelaw07_DrawEven.j3 kj10 a1 (ji4) x6_1 x7_2 t469 x6_1 x26_2 (t473 != 0) t470 t473) else (samphirelaw07_DrawEven.j3 kj10 a1 (ji4) x6_1 x7_2 t469 x6_1 x26_2 false t470 t473)) else (samphirelaw07_DrawEven.j3 kj10 a1 (ji4) x6_1 x7_2 t469 x6_1 x26_2 true t470 t473))) else (samphirelaw07_DrawEven.j3 kj10 a1 (ji4) x6_1 x7_2 t469 x6_1 x26_2 true t470 t473))) else (if (ji4) = 1 then (samphirelaw07_DrawEven.j3 kj10 a1 (ji4) x6_1 x7_2 t469 x6_1 x26_2 (t473 != 0) t470 t473) else (samphirelaw07_DrawEven.j3 kj10 a1 (ji4) x6_1 x7_2 t469 x6_1 x26_2 false t470 t473))) = some r := by rw [if_neg (show ¬ (false = true) by decide)] at H; exact H
                        clear H
                        have H := H1
                        clear H1
                        have HC21 := Aside0.mk H
                        clear H
                        go_upto_region 12 with (fail)
                        go_cut [83] (fun v83 wc => ∃ (kq : Nat) (x83_20 : Bool), v83 = .bool x83_20 ∧ Aside0 (samphirelaw07_DrawEven.j3 kq a1 (ji4) x6_1 x7_2 t469 x6_1 x26_2 x83_20 t470 t473 = some r) ∧ Aside0 (kq ≤ kj10) ∧ Aside0 (Kd.R (Kd.int .i64) 3 wc w.heap.size (fun _ => True) v464 x7_2) ∧ Aside0 (Kd.V (Kd.int .u64) 23 wc w.heap.size (fun k_ => some k_ ≠ (v464 : Value).ownBlock ∧ k_ ≠ gb475) (.slice Ao17 t470.length co17) t470) ∧ Aside0 (wc.heap[gb475]? = some (.cells #[(.slice Ao17 t470.length co17), .int .i64 t473] 28 (0, 0))) ∧ Aside0 (Below w.heap.size w wc))
                        case first =>
                          have H := HC21.out
                          clear HC21
                          by_cases c22 : (ji4) > 1
                          · rw [if_pos c22] at H
                            have c22b0 : decide (1 < (ji4)) = true := decide_eq_true c22
                            clear c22
                            (first | rw [c22b0] | (simp only [i64_w, i32_w]; rw [c22b0]) | skip)
                            by_cases c23 : t473 = 1
                            · rw [if_pos c23] at H
                              have c23b0 : (t473 == 1) = true := beq_iff_eq.mpr c23
                              have c23b1 : (t473 != 1) = false := bne_eq_false_iff_eq.mpr c23
                              clear c23
                              by_cases c24 : (ji4) = 1
                              · rw [if_pos c24] at H
                                have c24b0 : ((ji4) == 1) = true := beq_iff_eq.mpr c24
                                have c24b1 : ((ji4) != 1) = false := bne_eq_false_iff_eq.mpr c24
                                clear c24
                                have H' := Aside0.mk H
                                clear H
                                have hcz25_0 : wc.cell? ⟨gb475, 0, none⟩ = some (.slice Ao17 t470.length co17) := (blk_cell BK475.out 0).trans rfl
                                have hcz25_1 : wc.cell? ⟨gb475, 1, none⟩ = some (.int .i64 t473) := (blk_cell BK475.out 1).trans rfl
                                have hfz25_0 := blk_frozen BK475.out 0
                                have hfz25_1 := blk_frozen BK475.out 1
                                go_wp2
                                go_meet
                                case rel => exact ⟨_, ((t473 != 0)), (by first | rfl | (simp; done) | (simp [*]; done)), H', ⟨by have := HK1.out; have := HK2.out; have := HJ10.out; first | omega | exact Nat.le_refl _⟩, ⟨by (with_reducible repeat (first | apply Kd.R_alloc | apply Kd.R_drewN | apply Kd.R_drew)); exact HO_7.out⟩, ⟨by (with_reducible repeat (first | apply Kd.V_alloc | apply Kd.V_drewN | apply Kd.V_drew)); exact HO_476000.out⟩, ⟨by (with_reducible repeat (first | refine blk_drewN ?_ _ | refine blk_drew ?_ | refine blk_alloc ?_ _)); exact BK475.out⟩, ⟨by repeat (first | (with_reducible first | exact HB.out | apply below_alloc | apply pw_below_drewN | apply below_drew1 | refine below_set ?_ GE475.out) | exact HB.out)⟩⟩
                              · rw [if_neg c24] at H
                                have c24b0 : ((ji4) == 1) = false := beq_eq_false_iff_ne.mpr c24
                                have c24b1 : ((ji4) != 1) = true := bne_iff_ne.mpr c24
                                have H' := Aside0.mk H
                                clear H
                                have hcz26_0 : wc.cell? ⟨gb475, 0, none⟩ = some (.slice Ao17 t470.length co17) := (blk_cell BK475.out 0).trans rfl
                                have hcz26_1 : wc.cell? ⟨gb475, 1, none⟩ = some (.int .i64 t473) := (blk_cell BK475.out 1).trans rfl
                                have hfz26_0 := blk_frozen BK475.out 0
                                have hfz26_1 := blk_frozen BK475.out 1
                                go_wp2
                                go_meet
                                case rel => exact ⟨_, (false), (by first | rfl | (simp; done) | (simp [*]; done)), H', ⟨by have := HK1.out; have := HK2.out; have := HJ10.out; first | omega | exact Nat.le_refl _⟩, ⟨by (with_reducible repeat (first | apply Kd.R_alloc | apply Kd.R_drewN | apply Kd.R_drew)); exact HO_7.out⟩, ⟨by (with_reducible repeat (first | apply Kd.V_alloc | apply Kd.V_drewN | apply Kd.V_drew)); exact HO_476000.out⟩, ⟨by (with_reducible repeat (first | refine blk_drewN ?_ _ | refine blk_drew ?_ | refine blk_alloc ?_ _)); exact BK475.out⟩, ⟨by repeat (first | (with_reducible first | exact HB.out | apply below_alloc | apply pw_below_drewN | apply below_drew1 | refine below_set ?_ GE475.out) | exact HB.out)⟩⟩
                            · rw [if_neg c23] at H
                              have c23b0 : (t473 == 1) = false := beq_eq_false_iff_ne.mpr c23
                              have c23b1 : (t473 != 1) = true := bne_iff_ne.mpr c23
                              by_cases c27 : t473 = 2
                              · rw [if_pos c27] at H
                                have c27b0 : (t473 == 2) = true := beq_iff_eq.mpr c27
                                have c27b1 : (t473 != 2) = false := bne_eq_false_iff_eq.mpr c27
                                clear c27
                                by_cases c28 : x26_2 < (ji4)
                                · rw [if_pos c28] at H
                                  have c28b0 : decide (x26_2 < (ji4)) = true := decide_eq_true c28
                                  clear c28
                                  have H' := Aside0.mk H
                                  clear H
                                  have hcz29_0 : wc.cell? ⟨gb475, 0, none⟩ = some (.slice Ao17 t470.length co17) := (blk_cell BK475.out 0).trans rfl
                                  have hcz29_1 : wc.cell? ⟨gb475, 1, none⟩ = some (.int .i64 t473) := (blk_cell BK475.out 1).trans rfl
                                  have hfz29_0 := blk_frozen BK475.out 0
                                  have hfz29_1 := blk_frozen BK475.out 1
                                  go_wp2
                                  go_meet
                                  case rel => exact ⟨_, (true), (by first | rfl | (simp; done) | (simp [*]; done)), H', ⟨by have := HK1.out; have := HK2.out; have := HJ10.out; first | omega | exact Nat.le_refl _⟩, ⟨by (with_reducible repeat (first | apply Kd.R_alloc | apply Kd.R_drewN | apply Kd.R_drew)); exact HO_7.out⟩, ⟨by (with_reducible repeat (first | apply Kd.V_alloc | apply Kd.V_drewN | apply Kd.V_drew)); exact HO_476000.out⟩, ⟨by (with_reducible repeat (first | refine blk_drewN ?_ _ | refine blk_drew ?_ | refine blk_alloc ?_ _)); exact BK475.out⟩, ⟨by repeat (first | (with_reducible first | exact HB.out | apply below_alloc | apply pw_below_drewN | apply below_drew1 | refine below_set ?_ GE475.out) | exact HB.out)⟩⟩
                                · rw [if_neg c28] at H
                                  have c28b0 : decide (x26_2 < (ji4)) = false := decide_eq_false c28
                                  clear c28
                                  by_cases c30 : t469 = 0
                                  · rw [if_pos c30] at H
                                    have c30b0 : (t469 == 0) = true := beq_iff_eq.mpr c30
                                    have c30b1 : (t469 != 0) = false := bne_eq_false_iff_eq.mpr c30
                                    clear c30
                                    by_cases c31 : (ji4) = 1
                                    · rw [if_pos c31] at H
                                      have c31b0 : ((ji4) == 1) = true := beq_iff_eq.mpr c31
                                      have c31b1 : ((ji4) != 1) = false := bne_eq_false_iff_eq.mpr c31
                                      clear c31
                                      have H' := Aside0.mk H
                                      clear H
                                      have hcz32_0 : wc.cell? ⟨gb475, 0, none⟩ = some (.slice Ao17 t470.length co17) := (blk_cell BK475.out 0).trans rfl
                                      have hcz32_1 : wc.cell? ⟨gb475, 1, none⟩ = some (.int .i64 t473) := (blk_cell BK475.out 1).trans rfl
                                      have hfz32_0 := blk_frozen BK475.out 0
                                      have hfz32_1 := blk_frozen BK475.out 1
                                      go_wp2
                                      go_meet
                                      case rel => exact ⟨_, ((t473 != 0)), (by first | rfl | (simp; done) | (simp [*]; done)), H', ⟨by have := HK1.out; have := HK2.out; have := HJ10.out; first | omega | exact Nat.le_refl _⟩, ⟨by (with_reducible repeat (first | apply Kd.R_alloc | apply Kd.R_drewN | apply Kd.R_drew)); exact HO_7.out⟩, ⟨by (with_reducible repeat (first | apply Kd.V_alloc | apply Kd.V_drewN | apply Kd.V_drew)); exact HO_476000.out⟩, ⟨by (with_reducible repeat (first | refine blk_drewN ?_ _ | refine blk_drew ?_ | refine blk_alloc ?_ _)); exact BK475.out⟩, ⟨by repeat (first | (with_reducible first | exact HB.out | apply below_alloc | apply pw_below_drewN | apply below_drew1 | refine below_set ?_ GE475.out) | exact HB.out)⟩⟩
                                    · rw [if_neg c31] at H
                                      have c31b0 : ((ji4) == 1) = false := beq_eq_false_iff_ne.mpr c31
                                      have c31b1 : ((ji4) != 1) = true := bne_iff_ne.mpr c31
                                      have H' := Aside0.mk H
                                      clear H
                                      have hcz33_0 : wc.cell? ⟨gb475, 0, none⟩ = some (.slice Ao17 t470.length co17) := (blk_cell BK475.out 0).trans rfl
                                      have hcz33_1 : wc.cell? ⟨gb475, 1, none⟩ = some (.int .i64 t473) := (blk_cell BK475.out 1).trans rfl
                                      have hfz33_0 := blk_frozen BK475.out 0
                                      have hfz33_1 := blk_frozen BK475.out 1
                                      go_wp2
                                      go_meet
                                      case rel => exact ⟨_, (false), (by first | rfl | (simp; done) | (simp [*]; done)), H', ⟨by have := HK1.out; have := HK2.out; have := HJ10.out; first | omega | exact Nat.le_refl _⟩, ⟨by (with_reducible repeat (first | apply Kd.R_alloc | apply Kd.R_drewN | apply Kd.R_drew)); exact HO_7.out⟩, ⟨by (with_reducible repeat (first | apply Kd.V_alloc | apply Kd.V_drewN | apply Kd.V_drew)); exact HO_476000.out⟩, ⟨by (with_reducible repeat (first | refine blk_drewN ?_ _ | refine blk_drew ?_ | refine blk_alloc ?_ _)); exact BK475.out⟩, ⟨by repeat (first | (with_reducible first | exact HB.out | apply below_alloc | apply pw_below_drewN | apply below_drew1 | refine below_set ?_ GE475.out) | exact HB.out)⟩⟩
                                  · rw [if_neg c30] at H
                                    have c30b0 : (t469 == 0) = false := beq_eq_false_iff_ne.mpr c30
                                    have c30b1 : (t469 != 0) = true := bne_iff_ne.mpr c30
                                    have H' := Aside0.mk H
                                    clear H
                                    have hcz34_0 : wc.cell? ⟨gb475, 0, none⟩ = some (.slice Ao17 t470.length co17) := (blk_cell BK475.out 0).trans rfl
                                    have hcz34_1 : wc.cell? ⟨gb475, 1, none⟩ = some (.int .i64 t473) := (blk_cell BK475.out 1).trans rfl
                                    have hfz34_0 := blk_frozen BK475.out 0
                                    have hfz34_1 := blk_frozen BK475.out 1
                                    go_wp2
                                    go_meet
                                    case rel => exact ⟨_, (true), (by first | rfl | (simp; done) | (simp [*]; done)), H', ⟨by have := HK1.out; have := HK2.out; have := HJ10.out; first | omega | exact Nat.le_refl _⟩, ⟨by (with_reducible repeat (first | apply Kd.R_alloc | apply Kd.R_drewN | apply Kd.R_drew)); exact HO_7.out⟩, ⟨by (with_reducible repeat (first | apply Kd.V_alloc | apply Kd.V_drewN | apply Kd.V_drew)); exact HO_476000.out⟩, ⟨by (with_reducible repeat (first | refine blk_drewN ?_ _ | refine blk_drew ?_ | refine blk_alloc ?_ _)); exact BK475.out⟩, ⟨by repeat (first | (with_reducible first | exact HB.out | apply below_alloc | apply pw_below_drewN | apply below_drew1 | refine below_set ?_ GE475.out) | exact HB.out)⟩⟩
                              · rw [if_neg c27] at H
                                have c27b0 : (t473 == 2) = false := beq_eq_false_iff_ne.mpr c27
                                have c27b1 : (t473 != 2) = true := bne_iff_ne.mpr c27
                                have H' := Aside0.mk H
                                clear H
                                have hcz35_0 : wc.cell? ⟨gb475, 0, none⟩ = some (.slice Ao17 t470.length co17) := (blk_cell BK475.out 0).trans rfl
                                have hcz35_1 : wc.cell? ⟨gb475, 1, none⟩ = some (.int .i64 t473) := (blk_cell BK475.out 1).trans rfl
                                have hfz35_0 := blk_frozen BK475.out 0
                                have hfz35_1 := blk_frozen BK475.out 1
                                go_wp2
                                go_meet
                                case rel => exact ⟨_, (true), (by first | rfl | (simp; done) | (simp [*]; done)), H', ⟨by have := HK1.out; have := HK2.out; have := HJ10.out; first | omega | exact Nat.le_refl _⟩, ⟨by (with_reducible repeat (first | apply Kd.R_alloc | apply Kd.R_drewN | apply Kd.R_drew)); exact HO_7.out⟩, ⟨by (with_reducible repeat (first | apply Kd.V_alloc | apply Kd.V_drewN | apply Kd.V_drew)); exact HO_476000.out⟩, ⟨by (with_reducible repeat (first | refine blk_drewN ?_ _ | refine blk_drew ?_ | refine blk_alloc ?_ _)); exact BK475.out⟩, ⟨by repeat (first | (with_reducible first | exact HB.out | apply below_alloc | apply pw_below_drewN | apply below_drew1 | refine below_set ?_ GE475.out) | exact HB.out)⟩⟩
                          · rw [if_neg c22] at H
                            have c22b0 : decide (1 < (ji4)) = false := decide_eq_false c22
                            clear c22
                            (first | rw [c22b0] | (simp only [i64_w, i32_w]; rw [c22b0]) | skip)
                            by_cases c36 : (ji4) = 1
                            · rw [if_pos c36] at H
                              have c36b0 : ((ji4) == 1) = true := beq_iff_eq.mpr c36
                              have c36b1 : ((ji4) != 1) = false := bne_eq_false_iff_eq.mpr c36
                              clear c36
                              have H' := Aside0.mk H
                              clear H
                              have hcz37_0 : wc.cell? ⟨gb475, 0, none⟩ = some (.slice Ao17 t470.length co17) := (blk_cell BK475.out 0).trans rfl
                              have hcz37_1 : wc.cell? ⟨gb475, 1, none⟩ = some (.int .i64 t473) := (blk_cell BK475.out 1).trans rfl
                              have hfz37_0 := blk_frozen BK475.out 0
                              have hfz37_1 := blk_frozen BK475.out 1
                              go_wp2
                              go_meet
                              case rel => exact ⟨_, ((t473 != 0)), (by first | rfl | (simp; done) | (simp [*]; done)), H', ⟨by have := HK1.out; have := HK2.out; have := HJ10.out; first | omega | exact Nat.le_refl _⟩, ⟨by (with_reducible repeat (first | apply Kd.R_alloc | apply Kd.R_drewN | apply Kd.R_drew)); exact HO_7.out⟩, ⟨by (with_reducible repeat (first | apply Kd.V_alloc | apply Kd.V_drewN | apply Kd.V_drew)); exact HO_476000.out⟩, ⟨by (with_reducible repeat (first | refine blk_drewN ?_ _ | refine blk_drew ?_ | refine blk_alloc ?_ _)); exact BK475.out⟩, ⟨by repeat (first | (with_reducible first | exact HB.out | apply below_alloc | apply pw_below_drewN | apply below_drew1 | refine below_set ?_ GE475.out) | exact HB.out)⟩⟩
                            · rw [if_neg c36] at H
                              have c36b0 : ((ji4) == 1) = false := beq_eq_false_iff_ne.mpr c36
                              have c36b1 : ((ji4) != 1) = true := bne_iff_ne.mpr c36
                              have H' := Aside0.mk H
                              clear H
                              go_wp2
                              go_meet
                              case rel => exact ⟨_, (false), (by first | rfl | (simp; done) | (simp [*]; done)), H', ⟨by have := HK1.out; have := HK2.out; have := HJ10.out; first | omega | exact Nat.le_refl _⟩, ⟨by (with_reducible repeat (first | apply Kd.R_alloc | apply Kd.R_drewN | apply Kd.R_drew)); exact HO_7.out⟩, ⟨by (with_reducible repeat (first | apply Kd.V_alloc | apply Kd.V_drewN | apply Kd.V_drew)); exact HO_476000.out⟩, ⟨by (with_reducible repeat (first | refine blk_drewN ?_ _ | refine blk_drew ?_ | refine blk_alloc ?_ _)); exact BK475.out⟩, ⟨by repeat (first | (with_reducible first | exact HB.out | apply below_alloc | apply pw_below_drewN | apply below_drew1 | refine below_set ?_ GE475.out) | exact HB.out)⟩⟩
                        case rest =>
                          clear HC21
                          try clear c1
                          try clear c2
                          try clear p2
                          try clear c3
                          try clear c3b0
                          try clear c4
                          try clear c5
                          try clear c5b0
                          try clear c5b1
                          try clear c6
                          try clear c6b0
                          try clear c6b1
                          try clear c9
                          try clear c9b0
                          try clear c10
                          try clear c19
                          try clear c19b0
                          try clear c19b1
                          try clear c20
                          try clear c22
                          try clear c22b0
                          try clear c23
                          try clear c23b0
                          try clear c23b1
                          try clear c24
                          try clear c24b0
                          try clear c24b1
                          try clear c27
                          try clear c27b0
                          try clear c27b1
                          try clear c28
                          try clear c28b0
                          try clear c30
                          try clear c30b0
                          try clear c30b1
                          try clear c31
                          try clear c31b0
                          try clear c31b1
                          try clear c36
                          try clear c36b0
                          try clear c36b1
                          try clear hcz18_0
                          try clear hcz18_1
                          try clear hcz25_0
                          try clear hcz25_1
                          try clear hcz26_0
                          try clear hcz26_1
                          try clear hcz29_0
                          try clear hcz29_1
                          try clear hcz32_0
                          try clear hcz32_1
                          try clear hcz33_0
                          try clear hcz33_1
                          try clear hcz34_0
                          try clear hcz34_1
                          try clear hcz35_0
                          try clear hcz35_1
                          try clear hcz37_0
                          try clear hcz37_1
                          try clear hfz18_0
                          try clear hfz18_1
                          try clear hfz25_0
                          try clear hfz25_1
                          try clear hfz26_0
                          try clear hfz26_1
                          try clear hfz29_0
                          try clear hfz29_1
                          try clear hfz32_0
                          try clear hfz32_1
                          try clear hfz33_0
                          try clear hfz33_1
                          try clear hfz34_0
                          try clear hfz34_1
                          try clear hfz35_0
                          try clear hfz35_1
                          try clear hfz37_0
                          try clear hfz37_1
                          try clear p2
                          obtain ⟨kq, x83_20, rfl, HA, HJ20, HO_7, HO_476000, BK475, HB⟩ := hcut
                          cases kq with
                          | zero => exact absurd HA.out (by simp [samphirelaw07_DrawEven.j3])
                          | succ kj20 =>
                            have H := HA.out
                            clear HA
                            simp only [samphirelaw07_DrawEven.j3] at H
                            by_cases c38 : x83_20 = true
                            · subst c38
                              have H1 : (some false) = some r := by rw [if_pos rfl] at H; exact H
                              clear H
                              have H := H1
                              clear H1
                              obtain rfl := Option.some.inj H
                              go_wp2
                              go_ret
                              exact ⟨by first | rfl | (simp [errW_none, errW_some] <;> rfl) | (simp only [← hji4]; first | rfl | (simp [errW_none, errW_some] <;> rfl)) | (simp [*, errW_none, errW_some] <;> rfl), by repeat (first | (with_reducible first | exact HB.out | apply below_alloc | apply pw_below_drewN | apply below_drew1 | refine below_set ?_ GE475.out) | exact HB.out)⟩
                            · replace c38 := Bool.eq_false_iff.mpr c38
                              subst c38
                              have H1 : (if t473 < 2 then (if 0 ≤ t469 then (if t469 < (x7_2.length : Int) then (samphirelaw07_DrawEven.l1 kj20 a1 (ji4) x6_1 (x7_2.set (t469 : Int).toNat (wrap64 ((rd x7_2 t469) + 1))) x6_1 (IntKind.u64.wrap (x26_2 + 1))) else (none)) else (none)) else (samphirelaw07_DrawEven.l1 kj20 a1 (ji4) x6_1 x7_2 x6_1 (IntKind.u64.wrap (x26_2 + 1)))) = some r := by rw [if_neg (show ¬ (false = true) by decide)] at H; exact H
                              clear H
                              have H := H1
                              clear H1
                              by_cases c39 : t473 < 2
                              · rw [if_pos c39] at H
                                have c39b0 : decide (t473 < 2) = true := decide_eq_true c39
                                clear c39
                                by_cases c40 : 0 ≤ t469
                                · rw [if_pos c40] at H
                                  have c40b0 : decide (0 ≤ t469) = true := decide_eq_true c40
                                  clear c40
                                  by_cases c41 : t469 < (x7_2.length : Int)
                                  · rw [if_pos c41] at H
                                    have c41b0 : decide (t469 < (x7_2.length : Int)) = true := decide_eq_true c41
                                    clear c41
                                    obtain ⟨y477, hy477⟩ : ∃ y_ : List Int, y_ = (x7_2.set (t469 : Int).toNat (wrap64 ((rd x7_2 t469) + 1))) := ⟨_, rfl⟩
                                    replace H : (samphirelaw07_DrawEven.l1 kj20 a1 (ji4) x6_1 y477 x6_1 (IntKind.u64.wrap (x26_2 + 1))) = some r := by first | (rw [hy477]; with_reducible exact H) | (have H2_ := (Option.bind_some _ _).symm.trans H; rw [hy477]; with_reducible exact H2_) | (have H2_ := (Option.bind_some _ _).symm.trans H; with_reducible exact H2_) | with_reducible exact H | (rw [hy477]; exact H) | exact H
                                    have Ny477 := Aside0.mk hy477
                                    clear hy477
                                    have H' := Aside0.mk H
                                    clear H
                                    have hcz43_0 : wc.cell? ⟨gb475, 0, none⟩ = some (.slice Ao17 t470.length co17) := (blk_cell BK475.out 0).trans rfl
                                    have hcz43_1 : wc.cell? ⟨gb475, 1, none⟩ = some (.int .i64 t473) := (blk_cell BK475.out 1).trans rfl
                                    have hfz43_0 := blk_frozen BK475.out 0
                                    have hfz43_1 := blk_frozen BK475.out 1
                                    obtain ⟨Ao44, co44, eo44⟩ := Kd.R_slice HO_7.out
                                    subst eo44
                                    have p476 : 0 ≤ (t469 : Int) := of_decide_eq_true (by first | (with_reducible assumption) | assumption)
                                    have q476 : t469 < (x7_2.length : Int) := of_decide_eq_true (by first | (with_reducible assumption) | assumption)
                                    obtain ⟨ad476, e476, hx476_0⟩ := Kd.at_int (Kd.R_reads' HO_7.out).2.2 t469 p476 q476
                                    cases e476
                                    replace p476 := eq_true p476
                                    replace q476 := eq_true q476
                                    have p42 : 0 ≤ (t469 : Int) := of_decide_eq_true (by first | (with_reducible assumption) | assumption)
                                    have q42 : (t469 : Int) < ((x7_2.length : Int) : Int) := of_decide_eq_true (by first | (with_reducible assumption) | assumption)
                                    obtain ⟨go42, co42, eo42, gb42, gl42, cl42, HG42⟩ := Kd.R_form HO_7.out (by omega)
                                    (first | cases eo42 | (injection eo42 with ea_ en_ ec_; (first | subst ea_ | (injection ea_ with ea_; subst ea_)); subst ec_; clear en_))
                                    have GB42 := Aside0.mk gb42
                                    have GG42 := Aside0.mk HG42
                                    clear gb42 gl42 HG42
                                    (first | simp only [add_plain] at hx476_0 | skip)
                                    obtain ⟨hx42_0, hf42_0⟩ := Kd.R_celln 0 HO_7.out (t469 : Int) p42 q42
                                    replace p42 := eq_true p42
                                    replace q42 := eq_true q42
                                    have HP45 := Kd.R_putg HO_7.out (t469 : Int) (wrap64 ((rd x7_2 t469) + 1))
                                    go_wp2_with (first | ((with_reducible refine gate_store (t := 3) (p := 92) rfl ?_); refine store_event (t := 3) (p := 92) (v := ?vo_w46) (w1 := (wc.setCell ⟨go42, (t469 : Int).toNat, none⟩ (.int .i64 (wrap64 ((rd x7_2 t469) + 1))))) ?hg ?ho ?hn ?hr ?_; (case ho => rfl); (case hg => rfl); (case hn => rfl); (case hr => first | (go_simp; done) | (go_simp; rfl)); intro w46 hw; have hg : wc.grownBy w46 (some go42) := (by rw [hw]; exact HP45.2); have hp_ : Kd.R (Kd.int .i64) 3 w46 w.heap.size (fun _ => True) (.slice (some ⟨go42, 0, none⟩) x7_2.length co44) y477 := (by rw [hw, Ny477.out]; exact HP45.1); clear HP45; have n0_ := Aside0.mk (hp_); have n1_ := Aside0.mk (Kd.V_afterv (v := (.slice (some ⟨go42, 0, none⟩) x7_2.length co44)) (v1 := (.slice (some ⟨go42, 0, none⟩) x7_2.length co44)) (ok := (fun k_ => k_ ≠ gb475)) (by (with_reducible repeat (first | apply Kd.V_alloc | apply Kd.V_drewN | apply Kd.V_drew)); exact Kd.V_mono HO_476000.out (fun _ hk => ⟨hk.2, hk.1⟩)) hg (.inl rfl)); have n2_ := Aside0.mk (blk_grown (g := gb475) (o := .cells #[.slice Ao17 t470.length co17, .int .i64 t473] 28 (0, 0)) (by (with_reducible repeat (first | refine blk_drewN ?_ _ | refine blk_drew ?_ | refine blk_alloc ?_ _)); exact BK475.out) hg (Kd.R_ne HO_7.out BK475.out (by decide))); have n3_ := Aside0.mk ((by rw [hw]; exact below_set (HB.out) GB42.out : Below w.heap.size w w46)); clear HO_7; clear HO_476000; clear BK475; clear HB; have HO_7 := n0_; have HO_476000 := n1_; have BK475 := n2_; have HB := n3_; clear n0_ n1_ n2_ n3_; clear hg hw hp_))
                                    go_roundg kj20
                                    case measure => have := HK1.out; have := HK2.out; have := HJ10.out; have := HJ20.out; omega
                                    case rel => exact ⟨(y477), (IntKind.u64.wrap (x26_2 + 1)), (by first | rfl | (simp; done) | (simp [*]; done)), H', ⟨by have := HK1.out; have := HK2.out; have := HJ10.out; have := HJ20.out; omega⟩, ⟨by (with_reducible repeat (first | apply Kd.R_alloc | apply Kd.R_drewN | apply Kd.R_drew)); exact HO_7.out⟩, ⟨by repeat (first | (with_reducible first | exact HB.out | apply below_alloc | apply pw_below_drewN | apply below_drew1 | refine below_set ?_ GE475.out) | exact HB.out)⟩⟩
                                  · rw [if_neg c41] at H
                                    exact absurd H (by simp)
                                · rw [if_neg c40] at H
                                  exact absurd H (by simp)
                              · rw [if_neg c39] at H
                                have c39b0 : decide (t473 < 2) = false := decide_eq_false c39
                                clear c39
                                have H' := Aside0.mk H
                                clear H
                                have hcz47_0 : wc.cell? ⟨gb475, 0, none⟩ = some (.slice Ao17 t470.length co17) := (blk_cell BK475.out 0).trans rfl
                                have hcz47_1 : wc.cell? ⟨gb475, 1, none⟩ = some (.int .i64 t473) := (blk_cell BK475.out 1).trans rfl
                                have hfz47_0 := blk_frozen BK475.out 0
                                have hfz47_1 := blk_frozen BK475.out 1
                                go_wp2
                                go_roundg kj20
                                case measure => have := HK1.out; have := HK2.out; have := HJ10.out; have := HJ20.out; omega
                                case rel => exact ⟨(x7_2), (IntKind.u64.wrap (x26_2 + 1)), (by first | rfl | (simp; done) | (simp [*]; done)), H', ⟨by have := HK1.out; have := HK2.out; have := HJ10.out; have := HJ20.out; omega⟩, ⟨by (with_reducible repeat (first | apply Kd.R_alloc | apply Kd.R_drewN | apply Kd.R_drew)); exact HO_7.out⟩, ⟨by repeat (first | (with_reducible first | exact HB.out | apply below_alloc | apply pw_below_drewN | apply below_drew1 | refine below_set ?_ GE475.out) | exact HB.out)⟩⟩
                · rw [if_neg c9] at H
                  have c9b0 : decide (x26_2 < x6_1) = false := decide_eq_false c9
                  clear c9
                  have H' := Aside0.mk H
                  clear H
                  obtain ⟨Ao48, co48, eo48⟩ := Kd.R_slice HO_7.out
                  subst eo48
                  go_wp2
                  go_loopg [96] k2 (fun kq v96 w' => ∃ (x96_3 : Int), v96 = .int .i64 x96_3 ∧ Aside0 (samphirelaw07_DrawEven.l2 kq x7_2 (x7_2.length : Int) x96_3 = some r) ∧ Aside0 (kq ≤ k2) ∧ Aside0 (Kd.R (Kd.int .i64) 3 w' w.heap.size (fun _ => True) (.slice Ao48 x7_2.length co48) x7_2) ∧ Aside0 (Below w.heap.size w w'))
                  case atStart => exact ⟨(0), (by first | rfl | (simp; done) | (simp [*]; done)), H', ⟨Nat.le_refl _⟩, ⟨by (with_reducible repeat (first | apply Kd.R_alloc | apply Kd.R_drewN | apply Kd.R_drew)); exact HO_7.out⟩, ⟨by repeat (first | (with_reducible first | exact HB.out | apply below_alloc | apply pw_below_drewN | apply below_drew1) | exact HB.out)⟩⟩
                  case round =>
                    clear H'
                    try clear c1
                    try clear c2
                    try clear p2
                    try clear c3
                    try clear c3b0
                    try clear c4
                    try clear p4
                    try clear q4
                    try clear hx4
                    try clear hf4
                    try clear c5
                    try clear c5b0
                    try clear c5b1
                    try clear c6
                    try clear c6b0
                    try clear c6b1
                    try clear p6
                    try clear c9
                    try clear c9b0
                    try clear c10
                    try clear c19
                    try clear c19b0
                    try clear c19b1
                    try clear c20
                    try clear c22
                    try clear c22b0
                    try clear c23
                    try clear c23b0
                    try clear c23b1
                    try clear c24
                    try clear c24b0
                    try clear c24b1
                    try clear c27
                    try clear c27b0
                    try clear c27b1
                    try clear c28
                    try clear c28b0
                    try clear c30
                    try clear c30b0
                    try clear c30b1
                    try clear c31
                    try clear c31b0
                    try clear c31b1
                    try clear c36
                    try clear c36b0
                    try clear c36b1
                    try clear c38
                    try clear c39
                    try clear c39b0
                    try clear c40
                    try clear c40b0
                    try clear c41
                    try clear c41b0
                    try clear p42
                    try clear q42
                    try clear hx42
                    try clear hf42
                    try clear p47
                    try clear q47
                    try clear hx47
                    try clear hcz18_0
                    try clear hcz18_1
                    try clear hcz25_0
                    try clear hcz25_1
                    try clear hcz26_0
                    try clear hcz26_1
                    try clear hcz29_0
                    try clear hcz29_1
                    try clear hcz32_0
                    try clear hcz32_1
                    try clear hcz33_0
                    try clear hcz33_1
                    try clear hcz34_0
                    try clear hcz34_1
                    try clear hcz35_0
                    try clear hcz35_1
                    try clear hcz37_0
                    try clear hcz37_1
                    try clear hcz43_0
                    try clear hcz43_1
                    try clear hcz47_0
                    try clear hcz47_1
                    try clear hfz18_0
                    try clear hfz18_1
                    try clear hfz25_0
                    try clear hfz25_1
                    try clear hfz26_0
                    try clear hfz26_1
                    try clear hfz29_0
                    try clear hfz29_1
                    try clear hfz32_0
                    try clear hfz32_1
                    try clear hfz33_0
                    try clear hfz33_1
                    try clear hfz34_0
                    try clear hfz34_1
                    try clear hfz35_0
                    try clear hfz35_1
                    try clear hfz37_0
                    try clear hfz37_1
                    try clear hfz43_0
                    try clear hfz43_1
                    try clear hfz47_0
                    try clear hfz47_1
                    try clear hx42_0
                    try clear hx476_0
                    try clear p2
                    try clear p42
                    try clear p476
                    try clear q42
                    try clear q476
                    obtain ⟨x96_3, rfl, HA, HK3, HO_94, HB⟩ := hrel
                    cases gk with
                    | zero => exact absurd HA.out (by simp [samphirelaw07_DrawEven.l2])
                    | succ k3 =>
                      have H := HA.out
                      clear HA
                      simp only [samphirelaw07_DrawEven.l2] at H
                      by_cases c49 : x96_3 < (x7_2.length : Int)
                      · rw [if_pos c49] at H
                        have c49b0 : decide (x96_3 < (x7_2.length : Int)) = true := decide_eq_true c49
                        clear c49
                        by_cases c50 : 0 ≤ x96_3
                        · rw [if_pos c50] at H
                          have c50b0 : decide (0 ≤ x96_3) = true := decide_eq_true c50
                          clear c50
                          by_cases c51 : x96_3 < (x7_2.length : Int)
                          · rw [if_pos c51] at H
                            have c51b0 : decide (x96_3 < (x7_2.length : Int)) = true := decide_eq_true c51
                            clear c51
                            by_cases c52 : (rd x7_2 x96_3) = 1
                            · rw [if_pos c52] at H
                              have c52b0 : ((rd x7_2 x96_3) == 1) = true := beq_iff_eq.mpr c52
                              have c52b1 : ((rd x7_2 x96_3) != 1) = false := bne_eq_false_iff_eq.mpr c52
                              clear c52
                              have H' := Aside0.mk H
                              clear H
                              have p478 : 0 ≤ (x96_3 : Int) := of_decide_eq_true (by first | (with_reducible assumption) | assumption)
                              have q478 : x96_3 < (x7_2.length : Int) := of_decide_eq_true (by first | (with_reducible assumption) | assumption)
                              obtain ⟨ad478, e478, hx478_0⟩ := Kd.at_int (Kd.R_reads' HO_94.out).2.2 x96_3 p478 q478
                              cases e478
                              replace p478 := eq_true p478
                              replace q478 := eq_true q478
                              go_wp2
                              go_roundg k3
                              case measure => have := HK1.out; have := HK2.out; have := HK3.out; omega
                              case rel => exact ⟨(wrap64 (x96_3 + 1)), (by first | rfl | (simp; done) | (simp [*]; done)), H', ⟨by have := HK1.out; have := HK2.out; have := HK3.out; omega⟩, ⟨by (with_reducible repeat (first | apply Kd.R_alloc | apply Kd.R_drewN | apply Kd.R_drew)); exact HO_94.out⟩, ⟨by repeat (first | (with_reducible first | exact HB.out | apply below_alloc | apply pw_below_drewN | apply below_drew1) | exact HB.out)⟩⟩
                            · rw [if_neg c52] at H
                              have c52b0 : ((rd x7_2 x96_3) == 1) = false := beq_eq_false_iff_ne.mpr c52
                              have c52b1 : ((rd x7_2 x96_3) != 1) = true := bne_iff_ne.mpr c52
                              obtain rfl := Option.some.inj H
                              have p478 : 0 ≤ (x96_3 : Int) := of_decide_eq_true (by first | (with_reducible assumption) | assumption)
                              have q478 : x96_3 < (x7_2.length : Int) := of_decide_eq_true (by first | (with_reducible assumption) | assumption)
                              obtain ⟨ad478, e478, hx478_0⟩ := Kd.at_int (Kd.R_reads' HO_94.out).2.2 x96_3 p478 q478
                              cases e478
                              replace p478 := eq_true p478
                              replace q478 := eq_true q478
                              go_wp2
                              go_ret
                              exact ⟨by first | rfl | (simp [errW_none, errW_some] <;> rfl) | (simp only [← hji4]; first | rfl | (simp [errW_none, errW_some] <;> rfl)) | (simp [*, errW_none, errW_some] <;> rfl), by repeat (first | (with_reducible first | exact HB.out | apply below_alloc | apply pw_below_drewN | apply below_drew1) | exact HB.out)⟩
                          · rw [if_neg c51] at H
                            exact absurd H (by simp)
                        · rw [if_neg c50] at H
                          exact absurd H (by simp)
                      · rw [if_neg c49] at H
                        have c49b0 : decide (x96_3 < (x7_2.length : Int)) = false := decide_eq_false c49
                        clear c49
                        replace H := Option.bind_eq_some_iff.mp H
                        obtain ⟨t479, A530, H⟩ := H
                        replace H : (some t479) = some r := H
                        have A53 := Aside0.mk A530
                        clear A530
                        obtain rfl := Option.some.inj H
                        go_wp2_with (first | ((with_reducible refine gate_callee (f := 9) rfl ?_); refine goesL_ (some 103) rfl rfl Try.func9 (by kernel_rfl) rfl #[] rfl (by (try simp only [List.map_toArray, List.map_cons, List.map_nil]); first | done | rfl | (simp only [List.length_drop, List.length_take]; rfl)) ?_; (with_reducible refine (samphirelaw07_awake.calls k3  t479 _ A53.out).mono ?_); rintro e w54 ⟨rfl, hb⟩; refine ⟨_, rfl, ?_⟩; have n0_ := Aside0.mk (Kd.R_below (by (with_reducible repeat (first | apply Kd.R_alloc | apply Kd.R_drewN | apply Kd.R_drew)); exact HO_94.out) hb); have n1_ := Aside0.mk (below_step (by repeat (first | (with_reducible first | exact HB.out | apply below_alloc | apply pw_below_drewN | apply below_drew1) | exact HB.out)) hb); clear HO_94; clear HB; have HO_94 := n0_; have HB := n1_; clear n0_ n1_; (try clear hb); (try clear hb2); (try clear hk); (try clear hi)))
                        go_ret
                        exact ⟨by first | rfl | (simp [errW_none, errW_some] <;> rfl) | (simp only [← hji4]; first | rfl | (simp [errW_none, errW_some] <;> rfl)) | (simp [*, errW_none, errW_some] <;> rfl), by repeat (first | (with_reducible first | exact HB.out | apply below_alloc | apply pw_below_drewN | apply below_drew1) | exact HB.out)⟩
          · rw [if_neg c6] at H
            exact absurd H (by simp)
        · rw [if_neg c5] at H
          exact absurd H (by simp)

/-- THE ONE PURE STATEMENT of samphirelaw07_DrawEven: yours. -/
def samphirelaw07_DrawEven.Pure : Prop := ∀ (a0 : Int) (a1 : Int), (Lit.int .u16 a0).wf = true → (Lit.int .u64 a1).wf = true → ∃ k, samphirelaw07_DrawEven.f k a0 a1 = some true
theorem samphirelaw07_DrawEven.walk (P : samphirelaw07_DrawEven.Pure) (a0 : Int) (a1 : Int) (w : World) (w0 : (Lit.int .u16 a0).wf = true) (w1 : (Lit.int .u64 a1).wf = true) :
    Calls Try.prog 4 #[.int .u16 a0, .int .u64 a1] w fun e w' => e = .returned (.bool true) ∧ Below w.heap.size w w' := by
  obtain ⟨k, h⟩ := P a0 a1 w0 w1
  refine (samphirelaw07_DrawEven.calls k a0 a1 true w h).mono ?_
  rintro e w' ⟨rfl, hd⟩
  exact ⟨rfl, hd⟩

end Go.Proofs.Ytpgfadljcmakfaa.Q
