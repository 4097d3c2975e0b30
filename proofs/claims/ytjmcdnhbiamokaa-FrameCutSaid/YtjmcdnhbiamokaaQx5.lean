/- Walks of Go functions, each against a plain function over numbers and lists; written by this session's program printx.py over the kit's print; no condition but those that each theorem states. -/
import Derived.Test.YtjmcdnhbiamokaaQx0
import Derived.Test.YtjmcdnhbiamokaaQx1
namespace Go.Proofs.Ytjmcdnhbiamokaa.Q
open Go.RowKit Go.Proofs.YtjmcdnhbiamokaaW.PrintWords Go.Proofs.YtjmcdnhbiamokaaW.PrintLast Go.Proofs.YtjmcdnhbiamokaaW.PrintMore
attribute [local go_sem] max2_int min2_int max_two min_two max_three min_three max_four min_four   -- for this text's walks alone
set_option linter.unusedVariables false
set_option linter.unusedSimpArgs false

/-! ### samphirelaw09_FrameBack: function 4 -/
mutual
def samphirelaw09_FrameBack.j0 : Nat → Int → ByteArray → ByteArray → Bool → Option (Bool)
  | 0, _, _, _, _ => none
  | k + 1, x0, x1, x2, x25 => if x25 = true then ((samphirelaw09_awake.f k).bind fun t188 => (some t188)) else ((frame_Seal.f k (wrap64 (1 + (wrap64 (Int.tmod x0 8)))) x1).bind fun bt189 => ((frame_Open.f bt189.1).bind fun bt191 => (if bt189.2 = 0 then (if bt191.2.2 = 0 then (if bt191.1 = (wrap64 (1 + (wrap64 (Int.tmod x0 8)))) then (samphirelaw09_FrameBack.j1 k x2 (bt191.2.1.toList != x1.toList)) else (samphirelaw09_FrameBack.j1 k x2 true)) else (samphirelaw09_FrameBack.j1 k x2 true)) else (samphirelaw09_FrameBack.j1 k x2 true))))
def samphirelaw09_FrameBack.j1 : Nat → ByteArray → Bool → Option (Bool)
  | 0, _, _ => none
  | k + 1, x2, x58 => if x58 = true then (some false) else ((frame_Open.f x2).bind fun bt194 => (if bt194.2.2 = 0 then ((frame_Seal.f k bt194.1 bt194.2.1).bind fun bt197 => (if bt197.2 = 0 then (if bt197.1.toList = x2.toList then ((samphirelaw09_awake.f k).bind fun t199 => (some t199)) else (none)) else (none))) else (if bt194.1 = 0 then (if bt194.2.1.toList = ([] : List UInt8) then ((samphirelaw09_awake.f k).bind fun t200 => (some t200)) else (none)) else (none))))
end
def samphirelaw09_FrameBack.f (k : Nat) (a0 : Int) (a1 : ByteArray) (a2 : ByteArray) : Option (Bool) := if (a1.size : Int) > 600 then (samphirelaw09_FrameBack.j0 k a0 a1 a2 true) else (samphirelaw09_FrameBack.j0 k a0 a1 a2 (decide ((a2.size : Int) > 600)))
theorem samphirelaw09_FrameBack.mono_l : ∀ k, (∀ y0 y1 y2 y3, LeO (samphirelaw09_FrameBack.j0 k y0 y1 y2 y3) (samphirelaw09_FrameBack.j0 (k + 1) y0 y1 y2 y3)) ∧ (∀ y0 y1, LeO (samphirelaw09_FrameBack.j1 k y0 y1) (samphirelaw09_FrameBack.j1 (k + 1) y0 y1))
  | 0 => ⟨fun _ _ _ _ r h => by simp [samphirelaw09_FrameBack.j0] at h, fun _ _ r h => by simp [samphirelaw09_FrameBack.j1] at h⟩
  | k + 1 => by
    obtain ⟨ih0, ih1⟩ := samphirelaw09_FrameBack.mono_l k
    refine ⟨?_, ?_⟩
    · intro y0 y1 y2 y3
      unfold samphirelaw09_FrameBack.j0
      repeat' first
      | (with_reducible exact ih0 _ _ _ _)
      | (with_reducible exact ih1 _ _)
      | (with_reducible exact frame_Seal.mono _ _ _)
      | (with_reducible exact samphirelaw09_awake.mono _)
      | (with_reducible exact LeO.refl _)
      | (with_reducible exact LeO.none _)
      | (with_reducible refine LeO.ite ?_ ?_)
      | (with_reducible refine LeO.bind ?_ (fun _ => ?_))
      | exact ih0 _ _ _ _
      | exact ih1 _ _
      | exact frame_Seal.mono _ _ _
      | exact samphirelaw09_awake.mono _
      | exact LeO.none _
      | refine LeO.ite ?_ ?_
      | refine LeO.bind ?_ (fun _ => ?_)
    · intro y0 y1
      unfold samphirelaw09_FrameBack.j1
      repeat' first
      | (with_reducible exact ih0 _ _ _ _)
      | (with_reducible exact ih1 _ _)
      | (with_reducible exact frame_Seal.mono _ _ _)
      | (with_reducible exact samphirelaw09_awake.mono _)
      | (with_reducible exact LeO.refl _)
      | (with_reducible exact LeO.none _)
      | (with_reducible refine LeO.ite ?_ ?_)
      | (with_reducible refine LeO.bind ?_ (fun _ => ?_))
      | exact ih0 _ _ _ _
      | exact ih1 _ _
      | exact frame_Seal.mono _ _ _
      | exact samphirelaw09_awake.mono _
      | exact LeO.none _
      | refine LeO.ite ?_ ?_
      | refine LeO.bind ?_ (fun _ => ?_)
theorem samphirelaw09_FrameBack.mono : ∀ a0 a1 a2 k, LeO (samphirelaw09_FrameBack.f k a0 a1 a2) (samphirelaw09_FrameBack.f (k + 1) a0 a1 a2) := by
  intro a0 a1 a2 k
  obtain ⟨ih0, ih1⟩ := samphirelaw09_FrameBack.mono_l k
  unfold samphirelaw09_FrameBack.f
  repeat' first
      | (with_reducible exact ih0 _ _ _ _)
      | (with_reducible exact ih1 _ _)
      | (with_reducible exact frame_Seal.mono _ _ _)
      | (with_reducible exact samphirelaw09_awake.mono _)
      | (with_reducible exact LeO.refl _)
      | (with_reducible exact LeO.none _)
      | (with_reducible refine LeO.ite ?_ ?_)
      | (with_reducible refine LeO.bind ?_ (fun _ => ?_))
      | exact ih0 _ _ _ _
      | exact ih1 _ _
      | exact frame_Seal.mono _ _ _
      | exact samphirelaw09_awake.mono _
      | exact LeO.none _
      | refine LeO.ite ?_ ?_
      | refine LeO.bind ?_ (fun _ => ?_)
set_option maxHeartbeats 8000000 in
set_option maxRecDepth 100000 in
theorem samphirelaw09_FrameBack.calls (k : Nat) (a0 : Int) (a1 : ByteArray) (a2 : ByteArray) (r : Bool) (w : World) (h : samphirelaw09_FrameBack.f k a0 a1 a2 = some r) :
    Calls Try.prog 4 #[.int .u8 a0, .string a1, .string a2] w fun e w' => e = .returned (.bool r) ∧ Below w.heap.size w w' := by
  have HB := Aside0.mk (Below.refl w.heap.size w)
  have H : (if (a1.size : Int) > 600 then (samphirelaw09_FrameBack.j0 k a0 a1 a2 true) else (samphirelaw09_FrameBack.j0 k a0 a1 a2 (decide ((a2.size : Int) > 600)))) = some r := h
  clear h
  have HC4 := Aside0.mk H
  clear H
  go_enter Try.func4, Try.ntmps4
  go_upto_region 1 with (fail)
  go_cut [25] (fun v25 wc => ∃ (kq : Nat) (x25_3 : Bool), v25 = .bool x25_3 ∧ Aside0 (samphirelaw09_FrameBack.j0 kq a0 a1 a2 x25_3 = some r) ∧ Aside0 (kq ≤ k) ∧ Aside0 (Below w.heap.size w wc))
  case first =>
    have H := HC4.out
    clear HC4
    by_cases c5 : (a1.size : Int) > 600
    · rw [if_pos c5] at H
      have c5b0 : decide (600 < (a1.size : Int)) = true := decide_eq_true c5
      have c5b1 : decide (600 < a1.size) = true := decide_eq_true (by omega)
      clear c5
      (first | rw [c5b0] | (simp only [i64_w, i32_w]; rw [c5b0]) | skip)
      have H' := Aside0.mk H
      clear H
      go_wp2
      go_meet
      case rel => exact ⟨_, (true), (by first | rfl | (simp; done) | (simp [*]; done)), H', ⟨by first | omega | exact Nat.le_refl _⟩, ⟨by repeat (first | (with_reducible first | exact HB.out | apply below_alloc | apply pw_below_drewN | apply below_drew1) | exact HB.out)⟩⟩
    · rw [if_neg c5] at H
      have c5b0 : decide (600 < (a1.size : Int)) = false := decide_eq_false c5
      have c5b1 : decide (600 < a1.size) = false := decide_eq_false (by omega)
      clear c5
      (first | rw [c5b0] | (simp only [i64_w, i32_w]; rw [c5b0]) | skip)
      have H' := Aside0.mk H
      clear H
      go_wp2
      go_meet
      case rel => exact ⟨_, (decide ((a2.size : Int) > 600)), (by first | rfl | (simp; done) | (simp [*]; done)), H', ⟨by first | omega | exact Nat.le_refl _⟩, ⟨by repeat (first | (with_reducible first | exact HB.out | apply below_alloc | apply pw_below_drewN | apply below_drew1) | exact HB.out)⟩⟩
  case rest =>
    clear HC4
    try clear p2
    try clear c4
    try clear c5
    try clear c5b0
    try clear c5b1
    obtain ⟨kq, x25_3, rfl, HA, HJ3, HB⟩ := hcut
    cases kq with
    | zero => exact absurd HA.out (by simp [samphirelaw09_FrameBack.j0])
    | succ kj3 =>
      have H := HA.out
      clear HA
      simp only [samphirelaw09_FrameBack.j0] at H
      by_cases c6 : x25_3 = true
      · subst c6
        have H1 : ((samphirelaw09_awake.f kj3).bind fun t188 => (some t188)) = some r := by rw [if_pos rfl] at H; exact H
        clear H
        have H := H1
        clear H1
        replace H := Option.bind_eq_some_iff.mp H
        obtain ⟨t188, A70, H⟩ := H
        replace H : (some t188) = some r := H
        have A7 := Aside0.mk A70
        clear A70
        obtain rfl := Option.some.inj H
        go_wp2_with (first | ((with_reducible refine gate_callee (f := 9) rfl ?_); refine goesL_ (some 26) rfl rfl Try.func9 (by kernel_rfl) rfl #[] rfl (by (try simp only [List.map_toArray, List.map_cons, List.map_nil]); first | done | rfl | (simp only [List.length_drop, List.length_take]; rfl)) ?_; (with_reducible refine (samphirelaw09_awake.calls kj3  t188 _ A7.out).mono ?_); rintro e w8 ⟨rfl, hb⟩; refine ⟨_, rfl, ?_⟩; have n0_ := Aside0.mk (below_step (by repeat (first | (with_reducible first | exact HB.out | apply below_alloc | apply pw_below_drewN | apply below_drew1) | exact HB.out)) hb); clear HB; have HB := n0_; clear n0_; (try clear hb); (try clear hb2); (try clear hk); (try clear hi)))
        go_ret
        exact ⟨by first | rfl | (simp [errW_none, errW_some] <;> rfl) | (simp [*, errW_none, errW_some] <;> rfl), by repeat (first | (with_reducible first | exact HB.out | apply below_alloc | apply pw_below_drewN | apply below_drew1) | exact HB.out)⟩
      · replace c6 := Bool.eq_false_iff.mpr c6
        subst c6
        have H1 : ((frame_Seal.f kj3 (wrap64 (1 + (wrap64 (Int.tmod a0 8)))) a1).bind fun bt189 => ((frame_Open.f bt189.1).bind fun bt191 => (if bt189.2 = 0 then (if bt191.2.2 = 0 then (if bt191.1 = (wrap64 (1 + (wrap64 (Int.tmod a0 8)))) then (samphirelaw09_FrameBack.j1 kj3 a2 (bt191.2.1.toList != a1.toList)) else (samphirelaw09_FrameBack.j1 kj3 a2 true)) else (samphirelaw09_FrameBack.j1 kj3 a2 true)) else (samphirelaw09_FrameBack.j1 kj3 a2 true)))) = some r := by rw [if_neg (show ¬ (false = true) by decide)] at H; exact H
        clear H
        have H := H1
        clear H1
        replace H := Option.bind_eq_some_iff.mp H
        obtain ⟨⟨t189, t190⟩, A90, H⟩ := H
        replace H : ((frame_Open.f t189).bind fun bt191 => (if t190 = 0 then (if bt191.2.2 = 0 then (if bt191.1 = (wrap64 (1 + (wrap64 (Int.tmod a0 8)))) then (samphirelaw09_FrameBack.j1 kj3 a2 (bt191.2.1.toList != a1.toList)) else (samphirelaw09_FrameBack.j1 kj3 a2 true)) else (samphirelaw09_FrameBack.j1 kj3 a2 true)) else (samphirelaw09_FrameBack.j1 kj3 a2 true))) = some r := H
        have A9 := Aside0.mk A90
        clear A90
        replace H := Option.bind_eq_some_iff.mp H
        obtain ⟨⟨t191, t192, t193⟩, A100, H⟩ := H
        replace H : (if t190 = 0 then (if t193 = 0 then (if t191 = (wrap64 (1 + (wrap64 (Int.tmod a0 8)))) then (samphirelaw09_FrameBack.j1 kj3 a2 (t192.toList != a1.toList)) else (samphirelaw09_FrameBack.j1 kj3 a2 true)) else (samphirelaw09_FrameBack.j1 kj3 a2 true)) else (samphirelaw09_FrameBack.j1 kj3 a2 true)) = some r := H
        have A10 := Aside0.mk A100
        clear A100
        have HC11 := Aside0.mk H
        clear H
        go_upto_region 6 with (first | ((with_reducible refine gate_callee (f := 10) rfl ?_); refine goesL_ (some 34) rfl rfl Try.func10 (by kernel_rfl) rfl #[.int .i64 (wrap64 (1 + (wrap64 (Int.tmod a0 8)))), .string a1] rfl (by (try simp only [List.map_toArray, List.map_cons, List.map_nil]); first | done | rfl | (simp only [List.length_drop, List.length_take]; rfl)) ?_; (with_reducible refine (frame_Seal.calls kj3 (wrap64 (1 + (wrap64 (Int.tmod a0 8)))) a1 t189 t190 _ A9.out).mono ?_); rintro e w12 ⟨rfl, hb⟩; refine ⟨_, rfl, ?_⟩; have n0_ := Aside0.mk (below_step (by repeat (first | (with_reducible first | exact HB.out | apply below_alloc | apply pw_below_drewN | apply below_drew1) | exact HB.out)) hb); clear HB; have HB := n0_; clear n0_; (try clear hb); (try clear hb2); (try clear hk); (try clear hi)) | ((with_reducible refine gate_callee (f := 12) rfl ?_); refine goesL_ (some 39) rfl rfl Try.func12 (by kernel_rfl) rfl #[.string t189] rfl (by (try simp only [List.map_toArray, List.map_cons, List.map_nil]); first | done | rfl | (simp only [List.length_drop, List.length_take]; rfl)) ?_; (with_reducible refine (frame_Open.calls t189 t191 t192 t193 _ A10.out).mono ?_); rintro e w13 ⟨rfl, hb⟩; refine ⟨_, rfl, ?_⟩; have n0_ := Aside0.mk (below_step (by repeat (first | (with_reducible first | exact HB.out | apply below_alloc | apply pw_below_drewN | apply below_drew1) | exact HB.out)) hb); clear HB; have HB := n0_; clear n0_; (try clear hb); (try clear hb2); (try clear hk); (try clear hi)))
        (try simp only [Act.put, List.setIfInBounds_toArray, List.set_cons_zero, List.set_cons_succ])
        go_cut [58] (fun v58 wc => ∃ (kq : Nat) (x58_10 : Bool), v58 = .bool x58_10 ∧ Aside0 (samphirelaw09_FrameBack.j1 kq a2 x58_10 = some r) ∧ Aside0 (kq ≤ kj3) ∧ Aside0 (Below w.heap.size w wc))
        case first =>
          have H := HC11.out
          clear HC11
          by_cases c14 : t190 = 0
          · rw [if_pos c14] at H
            have c14b0 : (t190 == 0) = true := beq_iff_eq.mpr c14
            have c14b1 : (t190 != 0) = false := bne_eq_false_iff_eq.mpr c14
            clear c14
            (first | rw [c14b0] | (simp only [i64_w, i32_w]; rw [c14b0]) | skip)
            by_cases c15 : t193 = 0
            · rw [if_pos c15] at H
              have c15b0 : (t193 == 0) = true := beq_iff_eq.mpr c15
              have c15b1 : (t193 != 0) = false := bne_eq_false_iff_eq.mpr c15
              clear c15
              by_cases c16 : t191 = (wrap64 (1 + (wrap64 (Int.tmod a0 8))))
              · rw [if_pos c16] at H
                have c16b0 : (t191 == (wrap64 (1 + (wrap64 (Int.tmod a0 8))))) = true := beq_iff_eq.mpr c16
                have c16b1 : (t191 != (wrap64 (1 + (wrap64 (Int.tmod a0 8))))) = false := bne_eq_false_iff_eq.mpr c16
                clear c16
                have H' := Aside0.mk H
                clear H
                go_wp2
                go_meet
                case rel => exact ⟨_, ((t192.toList != a1.toList)), (by first | rfl | (simp; done) | (simp [*]; done)), H', ⟨by have := HJ3.out; first | omega | exact Nat.le_refl _⟩, ⟨by repeat (first | (with_reducible first | exact HB.out | apply below_alloc | apply pw_below_drewN | apply below_drew1) | exact HB.out)⟩⟩
              · rw [if_neg c16] at H
                have c16b0 : (t191 == (wrap64 (1 + (wrap64 (Int.tmod a0 8))))) = false := beq_eq_false_iff_ne.mpr c16
                have c16b1 : (t191 != (wrap64 (1 + (wrap64 (Int.tmod a0 8))))) = true := bne_iff_ne.mpr c16
                have H' := Aside0.mk H
                clear H
                go_wp2
                go_meet
                case rel => exact ⟨_, (true), (by first | rfl | (simp; done) | (simp [*]; done)), H', ⟨by have := HJ3.out; first | omega | exact Nat.le_refl _⟩, ⟨by repeat (first | (with_reducible first | exact HB.out | apply below_alloc | apply pw_below_drewN | apply below_drew1) | exact HB.out)⟩⟩
            · rw [if_neg c15] at H
              have c15b0 : (t193 == 0) = false := beq_eq_false_iff_ne.mpr c15
              have c15b1 : (t193 != 0) = true := bne_iff_ne.mpr c15
              have H' := Aside0.mk H
              clear H
              go_wp2
              go_meet
              case rel => exact ⟨_, (true), (by first | rfl | (simp; done) | (simp [*]; done)), H', ⟨by have := HJ3.out; first | omega | exact Nat.le_refl _⟩, ⟨by repeat (first | (with_reducible first | exact HB.out | apply below_alloc | apply pw_below_drewN | apply below_drew1) | exact HB.out)⟩⟩
          · rw [if_neg c14] at H
            have c14b0 : (t190 == 0) = false := beq_eq_false_iff_ne.mpr c14
            have c14b1 : (t190 != 0) = true := bne_iff_ne.mpr c14
            (first | rw [c14b0] | (simp only [i64_w, i32_w]; rw [c14b0]) | skip)
            have H' := Aside0.mk H
            clear H
            go_wp2
            go_meet
            case rel => exact ⟨_, (true), (by first | rfl | (simp; done) | (simp [*]; done)), H', ⟨by have := HJ3.out; first | omega | exact Nat.le_refl _⟩, ⟨by repeat (first | (with_reducible first | exact HB.out | apply below_alloc | apply pw_below_drewN | apply below_drew1) | exact HB.out)⟩⟩
        case rest =>
          clear HC11
          try clear c1
          try clear p2
          try clear c4
          try clear c5
          try clear c5b0
          try clear c5b1
          try clear c6
          try clear p6
          try clear c9
          try clear c10
          try clear c12
          try clear c14
          try clear c14b0
          try clear c14b1
          try clear c15
          try clear c15b0
          try clear c15b1
          try clear c16
          try clear c16b0
          try clear c16b1
          try clear p2
          obtain ⟨kq, x58_10, rfl, HA, HJ10, HB⟩ := hcut
          cases kq with
          | zero => exact absurd HA.out (by simp [samphirelaw09_FrameBack.j1])
          | succ kj10 =>
            have H := HA.out
            clear HA
            simp only [samphirelaw09_FrameBack.j1] at H
            by_cases c17 : x58_10 = true
            · subst c17
              have H1 : (some false) = some r := by rw [if_pos rfl] at H; exact H
              clear H
              have H := H1
              clear H1
              obtain rfl := Option.some.inj H
              go_wp2
              go_ret
              exact ⟨by first | rfl | (simp [errW_none, errW_some] <;> rfl) | (simp [*, errW_none, errW_some] <;> rfl), by repeat (first | (with_reducible first | exact HB.out | apply below_alloc | apply pw_below_drewN | apply below_drew1) | exact HB.out)⟩
            · replace c17 := Bool.eq_false_iff.mpr c17
              subst c17
              have H1 : ((frame_Open.f a2).bind fun bt194 => (if bt194.2.2 = 0 then ((frame_Seal.f kj10 bt194.1 bt194.2.1).bind fun bt197 => (if bt197.2 = 0 then (if bt197.1.toList = a2.toList then ((samphirelaw09_awake.f kj10).bind fun t199 => (some t199)) else (none)) else (none))) else (if bt194.1 = 0 then (if bt194.2.1.toList = ([] : List UInt8) then ((samphirelaw09_awake.f kj10).bind fun t200 => (some t200)) else (none)) else (none)))) = some r := by rw [if_neg (show ¬ (false = true) by decide)] at H; exact H
              clear H
              have H := H1
              clear H1
              replace H := Option.bind_eq_some_iff.mp H
              obtain ⟨⟨t194, t195, t196⟩, A180, H⟩ := H
              replace H : (if t196 = 0 then ((frame_Seal.f kj10 t194 t195).bind fun bt197 => (if bt197.2 = 0 then (if bt197.1.toList = a2.toList then ((samphirelaw09_awake.f kj10).bind fun t199 => (some t199)) else (none)) else (none))) else (if t194 = 0 then (if t195.toList = ([] : List UInt8) then ((samphirelaw09_awake.f kj10).bind fun t200 => (some t200)) else (none)) else (none))) = some r := H
              have A18 := Aside0.mk A180
              clear A180
              by_cases c19 : t196 = 0
              · rw [if_pos c19] at H
                have c19b0 : (t196 == 0) = true := beq_iff_eq.mpr c19
                have c19b1 : (t196 != 0) = false := bne_eq_false_iff_eq.mpr c19
                clear c19
                replace H := Option.bind_eq_some_iff.mp H
                obtain ⟨⟨t197, t198⟩, A200, H⟩ := H
                replace H : (if t198 = 0 then (if t197.toList = a2.toList then ((samphirelaw09_awake.f kj10).bind fun t199 => (some t199)) else (none)) else (none)) = some r := H
                have A20 := Aside0.mk A200
                clear A200
                by_cases c21 : t198 = 0
                · rw [if_pos c21] at H
                  have c21b0 : (t198 == 0) = true := beq_iff_eq.mpr c21
                  have c21b1 : (t198 != 0) = false := bne_eq_false_iff_eq.mpr c21
                  clear c21
                  by_cases c22 : t197.toList = a2.toList
                  · rw [if_pos c22] at H
                    have c22b0 : (t197.toList == a2.toList) = true := beq_iff_eq.mpr c22
                    have c22b1 : (t197.toList != a2.toList) = false := bne_eq_false_iff_eq.mpr c22
                    clear c22
                    replace H := Option.bind_eq_some_iff.mp H
                    obtain ⟨t199, A230, H⟩ := H
                    replace H : (some t199) = some r := H
                    have A23 := Aside0.mk A230
                    clear A230
                    obtain rfl := Option.some.inj H
                    go_wp2_with (first | ((with_reducible refine gate_callee (f := 12) rfl ?_); refine goesL_ (some 61) rfl rfl Try.func12 (by kernel_rfl) rfl #[.string a2] rfl (by (try simp only [List.map_toArray, List.map_cons, List.map_nil]); first | done | rfl | (simp only [List.length_drop, List.length_take]; rfl)) ?_; (with_reducible refine (frame_Open.calls a2 t194 t195 t196 _ A18.out).mono ?_); rintro e w24 ⟨rfl, hb⟩; refine ⟨_, rfl, ?_⟩; have n0_ := Aside0.mk (below_step (by repeat (first | (with_reducible first | exact HB.out | apply below_alloc | apply pw_below_drewN | apply below_drew1) | exact HB.out)) hb); clear HB; have HB := n0_; clear n0_; (try clear hb); (try clear hb2); (try clear hk); (try clear hi)) | ((with_reducible refine gate_callee (f := 10) rfl ?_); refine goesL_ (some 79) rfl rfl Try.func10 (by kernel_rfl) rfl #[.int .i64 t194, .string t195] rfl (by (try simp only [List.map_toArray, List.map_cons, List.map_nil]); first | done | rfl | (simp only [List.length_drop, List.length_take]; rfl)) ?_; (with_reducible refine (frame_Seal.calls kj10 t194 t195 t197 t198 _ A20.out).mono ?_); rintro e w25 ⟨rfl, hb⟩; refine ⟨_, rfl, ?_⟩; have n0_ := Aside0.mk (below_step (by repeat (first | (with_reducible first | exact HB.out | apply below_alloc | apply pw_below_drewN | apply below_drew1) | exact HB.out)) hb); clear HB; have HB := n0_; clear n0_; (try clear hb); (try clear hb2); (try clear hk); (try clear hi)) | (go_at_call 9; (with_reducible refine (samphirelaw09_awake.calls kj10  t199 _ A23.out).mono ?_); rintro e w26 ⟨rfl, hb⟩; have n0_ := Aside0.mk (below_step (by repeat (first | (with_reducible first | exact HB.out | apply below_alloc | apply pw_below_drewN | apply below_drew1) | exact HB.out)) hb); clear HB; have HB := n0_; clear n0_; (try clear hb); (try clear hb2); (try clear hk); (try clear hi)))
                    go_ret
                    exact ⟨by first | rfl | (simp [errW_none, errW_some] <;> rfl) | (simp [*, errW_none, errW_some] <;> rfl), by repeat (first | (with_reducible first | exact HB.out | apply below_alloc | apply pw_below_drewN | apply below_drew1) | exact HB.out)⟩
                  · rw [if_neg c22] at H
                    exact absurd H (by simp)
                · rw [if_neg c21] at H
                  exact absurd H (by simp)
              · rw [if_neg c19] at H
                have c19b0 : (t196 == 0) = false := beq_eq_false_iff_ne.mpr c19
                have c19b1 : (t196 != 0) = true := bne_iff_ne.mpr c19
                by_cases c27 : t194 = 0
                · rw [if_pos c27] at H
                  have c27b0 : (t194 == 0) = true := beq_iff_eq.mpr c27
                  have c27b1 : (t194 != 0) = false := bne_eq_false_iff_eq.mpr c27
                  clear c27
                  by_cases c28 : t195.toList = ([] : List UInt8)
                  · rw [if_pos c28] at H
                    have c28b0 : (t195.toList == ([] : List UInt8)) = true := beq_iff_eq.mpr c28
                    have c28b1 : (t195.toList != ([] : List UInt8)) = false := bne_eq_false_iff_eq.mpr c28
                    clear c28
                    replace H := Option.bind_eq_some_iff.mp H
                    obtain ⟨t200, A290, H⟩ := H
                    replace H : (some t200) = some r := H
                    have A29 := Aside0.mk A290
                    clear A290
                    obtain rfl := Option.some.inj H
                    go_wp2_with (first | ((with_reducible refine gate_callee (f := 12) rfl ?_); refine goesL_ (some 61) rfl rfl Try.func12 (by kernel_rfl) rfl #[.string a2] rfl (by (try simp only [List.map_toArray, List.map_cons, List.map_nil]); first | done | rfl | (simp only [List.length_drop, List.length_take]; rfl)) ?_; (with_reducible refine (frame_Open.calls a2 t194 t195 t196 _ A18.out).mono ?_); rintro e w30 ⟨rfl, hb⟩; refine ⟨_, rfl, ?_⟩; have n0_ := Aside0.mk (below_step (by repeat (first | (with_reducible first | exact HB.out | apply below_alloc | apply pw_below_drewN | apply below_drew1) | exact HB.out)) hb); clear HB; have HB := n0_; clear n0_; (try clear hb); (try clear hb2); (try clear hk); (try clear hi)) | (go_at_call 9; (with_reducible refine (samphirelaw09_awake.calls kj10  t200 _ A29.out).mono ?_); rintro e w31 ⟨rfl, hb⟩; have n0_ := Aside0.mk (below_step (by repeat (first | (with_reducible first | exact HB.out | apply below_alloc | apply pw_below_drewN | apply below_drew1) | exact HB.out)) hb); clear HB; have HB := n0_; clear n0_; (try clear hb); (try clear hb2); (try clear hk); (try clear hi)))
                    go_ret
                    exact ⟨by first | rfl | (simp [errW_none, errW_some] <;> rfl) | (simp [*, errW_none, errW_some] <;> rfl), by repeat (first | (with_reducible first | exact HB.out | apply below_alloc | apply pw_below_drewN | apply below_drew1) | exact HB.out)⟩
                  · rw [if_neg c28] at H
                    exact absurd H (by simp)
                · rw [if_neg c27] at H
                  exact absurd H (by simp)

/-- THE ONE PURE STATEMENT of samphirelaw09_FrameBack: yours. -/
def samphirelaw09_FrameBack.Pure : Prop := ∀ (a0 : Int) (a1 : ByteArray) (a2 : ByteArray), (Lit.int .u8 a0).wf = true → a1.size ≤ 140737488351232 → a2.size ≤ 140737488351232 → ∃ k, samphirelaw09_FrameBack.f k a0 a1 a2 = some true
theorem samphirelaw09_FrameBack.walk (P : samphirelaw09_FrameBack.Pure) (a0 : Int) (a1 : ByteArray) (a2 : ByteArray) (w : World) (w0 : (Lit.int .u8 a0).wf = true) (w1 : a1.size ≤ 140737488351232) (w2 : a2.size ≤ 140737488351232) :
    Calls Try.prog 4 #[.int .u8 a0, .string a1, .string a2] w fun e w' => e = .returned (.bool true) ∧ Below w.heap.size w w' := by
  obtain ⟨k, h⟩ := P a0 a1 a2 w0 w1 w2
  refine (samphirelaw09_FrameBack.calls k a0 a1 a2 true w h).mono ?_
  rintro e w' ⟨rfl, hd⟩
  exact ⟨rfl, hd⟩

-- NOT PRINTED: function 5 (samphirelaw09_FrameBurst)

/-! ### samphirelaw09_FrameCut: function 6 -/
mutual
def samphirelaw09_FrameCut.j0 : Nat → Int → ByteArray → ByteArray → Int → Bool → Option (Bool)
  | 0, _, _, _, _, _ => none
  | k + 1, x0, x1, x2, x3, x24 => if x24 = true then ((samphirelaw09_awake.f k).bind fun t204 => (some t204)) else ((frame_Seal.f k (wrap64 (1 + (wrap64 (Int.tmod x0 8)))) x1).bind fun bt205 => (if bt205.2 = 0 then (samphirelaw09_FrameCut.j1 k x2 x3 bt205.1 (decide ((bt205.1.size : Int) < 11))) else (samphirelaw09_FrameCut.j1 k x2 x3 bt205.1 true)))
def samphirelaw09_FrameCut.j1 : Nat → ByteArray → Int → ByteArray → Bool → Option (Bool)
  | 0, _, _, _, _ => none
  | k + 1, x2, x3, x9, x41 => if x41 = true then (some false) else (if (x9.size : Int) = 0 then (none) else (if 0 ≤ (Int.tmod (wrap64 (x3)) (x9.size : Int)) then (if (Int.tmod (wrap64 (x3)) (x9.size : Int)) ≤ (x9.size : Int) then ((frame_Open.f (x9.extract 0 ((Int.tmod (wrap64 (x3)) (x9.size : Int)) : Int).toNat)).bind fun bt207 => (if x9.size + x2.size ≤ 9223372036854775807 then ((frame_Open.f (x9 ++ x2)).bind fun bt210 => (if bt207.2.2 = 2 then (if ((bt210.2.2 == 2) == (x2.toList != ([] : List UInt8))) = true then ((samphirelaw09_awake.f k).bind fun t213 => (some t213)) else (none)) else (none))) else (none))) else (none)) else (none)))
end
def samphirelaw09_FrameCut.f (k : Nat) (a0 : Int) (a1 : ByteArray) (a2 : ByteArray) (a3 : Int) : Option (Bool) := if (a1.size : Int) > 300 then (samphirelaw09_FrameCut.j0 k a0 a1 a2 a3 true) else (samphirelaw09_FrameCut.j0 k a0 a1 a2 a3 (decide ((a2.size : Int) > 300)))
theorem samphirelaw09_FrameCut.mono_l : ∀ k, (∀ y0 y1 y2 y3 y4, LeO (samphirelaw09_FrameCut.j0 k y0 y1 y2 y3 y4) (samphirelaw09_FrameCut.j0 (k + 1) y0 y1 y2 y3 y4)) ∧ (∀ y0 y1 y2 y3, LeO (samphirelaw09_FrameCut.j1 k y0 y1 y2 y3) (samphirelaw09_FrameCut.j1 (k + 1) y0 y1 y2 y3))
  | 0 => ⟨fun _ _ _ _ _ r h => by simp [samphirelaw09_FrameCut.j0] at h, fun _ _ _ _ r h => by simp [samphirelaw09_FrameCut.j1] at h⟩
  | k + 1 => by
    obtain ⟨ih0, ih1⟩ := samphirelaw09_FrameCut.mono_l k
    refine ⟨?_, ?_⟩
    · intro y0 y1 y2 y3 y4
      unfold samphirelaw09_FrameCut.j0
      repeat' first
      | (with_reducible exact ih0 _ _ _ _ _)
      | (with_reducible exact ih1 _ _ _ _)
      | (with_reducible exact frame_Seal.mono _ _ _)
      | (with_reducible exact samphirelaw09_awake.mono _)
      | (with_reducible exact LeO.refl _)
      | (with_reducible exact LeO.none _)
      | (with_reducible refine LeO.ite ?_ ?_)
      | (with_reducible refine LeO.bind ?_ (fun _ => ?_))
      | exact ih0 _ _ _ _ _
      | exact ih1 _ _ _ _
      | exact frame_Seal.mono _ _ _
      | exact samphirelaw09_awake.mono _
      | exact LeO.none _
      | refine LeO.ite ?_ ?_
      | refine LeO.bind ?_ (fun _ => ?_)
    · intro y0 y1 y2 y3
      unfold samphirelaw09_FrameCut.j1
      repeat' first
      | (with_reducible exact ih0 _ _ _ _ _)
      | (with_reducible exact ih1 _ _ _ _)
      | (with_reducible exact frame_Seal.mono _ _ _)
      | (with_reducible exact samphirelaw09_awake.mono _)
      | (with_reducible exact LeO.refl _)
      | (with_reducible exact LeO.none _)
      | (with_reducible refine LeO.ite ?_ ?_)
      | (with_reducible refine LeO.bind ?_ (fun _ => ?_))
      | exact ih0 _ _ _ _ _
      | exact ih1 _ _ _ _
      | exact frame_Seal.mono _ _ _
      | exact samphirelaw09_awake.mono _
      | exact LeO.none _
      | refine LeO.ite ?_ ?_
      | refine LeO.bind ?_ (fun _ => ?_)
theorem samphirelaw09_FrameCut.mono : ∀ a0 a1 a2 a3 k, LeO (samphirelaw09_FrameCut.f k a0 a1 a2 a3) (samphirelaw09_FrameCut.f (k + 1) a0 a1 a2 a3) := by
  intro a0 a1 a2 a3 k
  obtain ⟨ih0, ih1⟩ := samphirelaw09_FrameCut.mono_l k
  unfold samphirelaw09_FrameCut.f
  repeat' first
      | (with_reducible exact ih0 _ _ _ _ _)
      | (with_reducible exact ih1 _ _ _ _)
      | (with_reducible exact frame_Seal.mono _ _ _)
      | (with_reducible exact samphirelaw09_awake.mono _)
      | (with_reducible exact LeO.refl _)
      | (with_reducible exact LeO.none _)
      | (with_reducible refine LeO.ite ?_ ?_)
      | (with_reducible refine LeO.bind ?_ (fun _ => ?_))
      | exact ih0 _ _ _ _ _
      | exact ih1 _ _ _ _
      | exact frame_Seal.mono _ _ _
      | exact samphirelaw09_awake.mono _
      | exact LeO.none _
      | refine LeO.ite ?_ ?_
      | refine LeO.bind ?_ (fun _ => ?_)
set_option maxHeartbeats 8000000 in
set_option maxRecDepth 100000 in
theorem samphirelaw09_FrameCut.calls (k : Nat) (a0 : Int) (a1 : ByteArray) (a2 : ByteArray) (a3 : Int) (r : Bool) (w : World) (h : samphirelaw09_FrameCut.f k a0 a1 a2 a3 = some r) :
    Calls Try.prog 6 #[.int .u8 a0, .string a1, .string a2, .int .u16 a3] w fun e w' => e = .returned (.bool r) ∧ Below w.heap.size w w' := by
  have HB := Aside0.mk (Below.refl w.heap.size w)
  have H : (if (a1.size : Int) > 300 then (samphirelaw09_FrameCut.j0 k a0 a1 a2 a3 true) else (samphirelaw09_FrameCut.j0 k a0 a1 a2 a3 (decide ((a2.size : Int) > 300)))) = some r := h
  clear h
  have HC5 := Aside0.mk H
  clear H
  go_enter Try.func6, Try.ntmps6
  go_upto_region 1 with (fail)
  go_cut [24] (fun v24 wc => ∃ (kq : Nat) (x24_4 : Bool), v24 = .bool x24_4 ∧ Aside0 (samphirelaw09_FrameCut.j0 kq a0 a1 a2 a3 x24_4 = some r) ∧ Aside0 (kq ≤ k) ∧ Aside0 (Below w.heap.size w wc))
  case first =>
    have H := HC5.out
    clear HC5
    by_cases c6 : (a1.size : Int) > 300
    · rw [if_pos c6] at H
      have c6b0 : decide (300 < (a1.size : Int)) = true := decide_eq_true c6
      have c6b1 : decide (300 < a1.size) = true := decide_eq_true (by omega)
      clear c6
      (first | rw [c6b0] | (simp only [i64_w, i32_w]; rw [c6b0]) | skip)
      have H' := Aside0.mk H
      clear H
      go_wp2
      go_meet
      case rel => exact ⟨_, (true), (by first | rfl | (simp; done) | (simp [*]; done)), H', ⟨by first | omega | exact Nat.le_refl _⟩, ⟨by repeat (first | (with_reducible first | exact HB.out | apply below_alloc | apply pw_below_drewN | apply below_drew1) | exact HB.out)⟩⟩
    · rw [if_neg c6] at H
      have c6b0 : decide (300 < (a1.size : Int)) = false := decide_eq_false c6
      have c6b1 : decide (300 < a1.size) = false := decide_eq_false (by omega)
      clear c6
      (first | rw [c6b0] | (simp only [i64_w, i32_w]; rw [c6b0]) | skip)
      have H' := Aside0.mk H
      clear H
      go_wp2
      go_meet
      case rel => exact ⟨_, (decide ((a2.size : Int) > 300)), (by first | rfl | (simp; done) | (simp [*]; done)), H', ⟨by first | omega | exact Nat.le_refl _⟩, ⟨by repeat (first | (with_reducible first | exact HB.out | apply below_alloc | apply pw_below_drewN | apply below_drew1) | exact HB.out)⟩⟩
  case rest =>
    clear HC5
    try clear p2
    try clear c6
    try clear c6b0
    try clear c6b1
    obtain ⟨kq, x24_4, rfl, HA, HJ4, HB⟩ := hcut
    cases kq with
    | zero => exact absurd HA.out (by simp [samphirelaw09_FrameCut.j0])
    | succ kj4 =>
      have H := HA.out
      clear HA
      simp only [samphirelaw09_FrameCut.j0] at H
      by_cases c7 : x24_4 = true
      · subst c7
        have H1 : ((samphirelaw09_awake.f kj4).bind fun t204 => (some t204)) = some r := by rw [if_pos rfl] at H; exact H
        clear H
        have H := H1
        clear H1
        replace H := Option.bind_eq_some_iff.mp H
        obtain ⟨t204, A80, H⟩ := H
        replace H : (some t204) = some r := H
        have A8 := Aside0.mk A80
        clear A80
        obtain rfl := Option.some.inj H
        go_wp2_with (first | ((with_reducible refine gate_callee (f := 9) rfl ?_); refine goesL_ (some 25) rfl rfl Try.func9 (by kernel_rfl) rfl #[] rfl (by (try simp only [List.map_toArray, List.map_cons, List.map_nil]); first | done | rfl | (simp only [List.length_drop, List.length_take]; rfl)) ?_; (with_reducible refine (samphirelaw09_awake.calls kj4  t204 _ A8.out).mono ?_); rintro e w9 ⟨rfl, hb⟩; refine ⟨_, rfl, ?_⟩; have n0_ := Aside0.mk (below_step (by repeat (first | (with_reducible first | exact HB.out | apply below_alloc | apply pw_below_drewN | apply below_drew1) | exact HB.out)) hb); clear HB; have HB := n0_; clear n0_; (try clear hb); (try clear hb2); (try clear hk); (try clear hi)))
        go_ret
        exact ⟨by first | rfl | (simp [errW_none, errW_some] <;> rfl) | (simp [*, errW_none, errW_some] <;> rfl), by repeat (first | (with_reducible first | exact HB.out | apply below_alloc | apply pw_below_drewN | apply below_drew1) | exact HB.out)⟩
      · replace c7 := Bool.eq_false_iff.mpr c7
        subst c7
        have H1 : ((frame_Seal.f kj4 (wrap64 (1 + (wrap64 (Int.tmod a0 8)))) a1).bind fun bt205 => (if bt205.2 = 0 then (samphirelaw09_FrameCut.j1 kj4 a2 a3 bt205.1 (decide ((bt205.1.size : Int) < 11))) else (samphirelaw09_FrameCut.j1 kj4 a2 a3 bt205.1 true))) = some r := by rw [if_neg (show ¬ (false = true) by decide)] at H; exact H
        clear H
        have H := H1
        clear H1
        replace H := Option.bind_eq_some_iff.mp H
        obtain ⟨⟨t205, t206⟩, A100, H⟩ := H
        replace H : (if t206 = 0 then (samphirelaw09_FrameCut.j1 kj4 a2 a3 t205 (decide ((t205.size : Int) < 11))) else (samphirelaw09_FrameCut.j1 kj4 a2 a3 t205 true)) = some r := H
        have A10 := Aside0.mk A100
        clear A100
        have HC11 := Aside0.mk H
        clear H
        go_upto_region 4 with (first | ((with_reducible refine gate_callee (f := 10) rfl ?_); refine goesL_ (some 32) rfl rfl Try.func10 (by kernel_rfl) rfl #[.int .i64 (wrap64 (1 + (wrap64 (Int.tmod a0 8)))), .string a1] rfl (by (try simp only [List.map_toArray, List.map_cons, List.map_nil]); first | done | rfl | (simp only [List.length_drop, List.length_take]; rfl)) ?_; (with_reducible refine (frame_Seal.calls kj4 (wrap64 (1 + (wrap64 (Int.tmod a0 8)))) a1 t205 t206 _ A10.out).mono ?_); rintro e w12 ⟨rfl, hb⟩; refine ⟨_, rfl, ?_⟩; have n0_ := Aside0.mk (below_step (by repeat (first | (with_reducible first | exact HB.out | apply below_alloc | apply pw_below_drewN | apply below_drew1) | exact HB.out)) hb); clear HB; have HB := n0_; clear n0_; (try clear hb); (try clear hb2); (try clear hk); (try clear hi)))
        (try simp only [Act.put, List.setIfInBounds_toArray, List.set_cons_zero, List.set_cons_succ])
        go_cut [41] (fun v41 wc => ∃ (kq : Nat) (x41_10 : Bool), v41 = .bool x41_10 ∧ Aside0 (samphirelaw09_FrameCut.j1 kq a2 a3 t205 x41_10 = some r) ∧ Aside0 (kq ≤ kj4) ∧ Aside0 (Below w.heap.size w wc))
        case first =>
          have H := HC11.out
          clear HC11
          by_cases c13 : t206 = 0
          · rw [if_pos c13] at H
            have c13b0 : (t206 == 0) = true := beq_iff_eq.mpr c13
            have c13b1 : (t206 != 0) = false := bne_eq_false_iff_eq.mpr c13
            clear c13
            (first | rw [c13b0] | (simp only [i64_w, i32_w]; rw [c13b0]) | skip)
            have H' := Aside0.mk H
            clear H
            go_wp2
            go_meet
            case rel => exact ⟨_, (decide ((t205.size : Int) < 11)), (by first | rfl | (simp; done) | (simp [*]; done)), H', ⟨by have := HJ4.out; first | omega | exact Nat.le_refl _⟩, ⟨by repeat (first | (with_reducible first | exact HB.out | apply below_alloc | apply pw_below_drewN | apply below_drew1) | exact HB.out)⟩⟩
          · rw [if_neg c13] at H
            have c13b0 : (t206 == 0) = false := beq_eq_false_iff_ne.mpr c13
            have c13b1 : (t206 != 0) = true := bne_iff_ne.mpr c13
            (first | rw [c13b0] | (simp only [i64_w, i32_w]; rw [c13b0]) | skip)
            have H' := Aside0.mk H
            clear H
            go_wp2
            go_meet
            case rel => exact ⟨_, (true), (by first | rfl | (simp; done) | (simp [*]; done)), H', ⟨by have := HJ4.out; first | omega | exact Nat.le_refl _⟩, ⟨by repeat (first | (with_reducible first | exact HB.out | apply below_alloc | apply pw_below_drewN | apply below_drew1) | exact HB.out)⟩⟩
        case rest =>
          clear HC11
          try clear c1
          try clear p2
          try clear c6
          try clear c6b0
          try clear c6b1
          try clear p6
          try clear c7
          try clear c9
          try clear c10
          try clear c13
          try clear c13b0
          try clear c13b1
          try clear p2
          obtain ⟨kq, x41_10, rfl, HA, HJ10, HB⟩ := hcut
          cases kq with
          | zero => exact absurd HA.out (by simp [samphirelaw09_FrameCut.j1])
          | succ kj10 =>
            have H := HA.out
            clear HA
            simp only [samphirelaw09_FrameCut.j1] at H
            by_cases c14 : x41_10 = true
            · subst c14
              have H1 : (some false) = some r := by rw [if_pos rfl] at H; exact H
              clear H
              have H := H1
              clear H1
              obtain rfl := Option.some.inj H
              go_wp2
              go_ret
              exact ⟨by first | rfl | (simp [errW_none, errW_some] <;> rfl) | (simp [*, errW_none, errW_some] <;> rfl), by repeat (first | (with_reducible first | exact HB.out | apply below_alloc | apply pw_below_drewN | apply below_drew1) | exact HB.out)⟩
            · replace c14 := Bool.eq_false_iff.mpr c14
              subst c14
              have H1 : (if (t205.size : Int) = 0 then (none) else (if 0 ≤ (Int.tmod (wrap64 (a3)) (t205.size : Int)) then (if (Int.tmod (wrap64 (a3)) (t205.size : Int)) ≤ (t205.size : Int) then ((frame_Open.f (t205.extract 0 ((Int.tmod (wrap64 (a3)) (t205.size : Int)) : Int).toNat)).bind fun bt207 => (if t205.size + a2.size ≤ 9223372036854775807 then ((frame_Open.f (t205 ++ a2)).bind fun bt210 => (if bt207.2.2 = 2 then (if ((bt210.2.2 == 2) == (a2.toList != ([] : List UInt8))) = true then ((samphirelaw09_awake.f kj10).bind fun t213 => (some t213)) else (none)) else (none))) else (none))) else (none)) else (none))) = some r := by rw [if_neg (show ¬ (false = true) by decide)] at H; exact H
              clear H
              have H := H1
              clear H1
              by_cases c15 : (t205.size : Int) = 0
              · rw [if_pos c15] at H
                exact absurd H (by simp)
              · rw [if_neg c15] at H
                have c15b0 : ((t205.size : Int) == 0) = false := beq_eq_false_iff_ne.mpr c15
                have c15b1 : ((t205.size : Int) != 0) = true := bne_iff_ne.mpr c15
                obtain ⟨ji16, hji16⟩ : ∃ j_ : Int, (Int.tmod (wrap64 (a3)) (t205.size : Int)) = j_ := ⟨_, rfl⟩
                replace H : (if 0 ≤ (ji16) then (if (ji16) ≤ (t205.size : Int) then ((frame_Open.f (t205.extract 0 ((ji16) : Int).toNat)).bind fun bt207 => (if t205.size + a2.size ≤ 9223372036854775807 then ((frame_Open.f (t205 ++ a2)).bind fun bt210 => (if bt207.2.2 = 2 then (if ((bt210.2.2 == 2) == (a2.toList != ([] : List UInt8))) = true then ((samphirelaw09_awake.f kj10).bind fun t213 => (some t213)) else (none)) else (none))) else (none))) else (none)) else (none)) = some r := by first | (rw [hji16] at H; exact H) | (simp only [hji16] at H ⊢; exact H)
                by_cases c17 : 0 ≤ (ji16)
                · rw [if_pos c17] at H
                  have c17b0 := eq_true c17
                  have c17b1 : decide (0 ≤ (ji16)) = true := decide_eq_true c17
                  clear c17
                  by_cases c18 : (ji16) ≤ (t205.size : Int)
                  · rw [if_pos c18] at H
                    have c18b0 := eq_true c18
                    have c18b1 : decide ((ji16) ≤ (t205.size : Int)) = true := decide_eq_true c18
                    clear c18
                    replace H := Option.bind_eq_some_iff.mp H
                    obtain ⟨⟨t207, t208, t209⟩, A190, H⟩ := H
                    replace H : (if t205.size + a2.size ≤ 9223372036854775807 then ((frame_Open.f (t205 ++ a2)).bind fun bt210 => (if t209 = 2 then (if ((bt210.2.2 == 2) == (a2.toList != ([] : List UInt8))) = true then ((samphirelaw09_awake.f kj10).bind fun t213 => (some t213)) else (none)) else (none))) else (none)) = some r := H
                    have A19 := Aside0.mk A190
                    clear A190
                    by_cases c20 : t205.size + a2.size ≤ 9223372036854775807
                    · rw [if_pos c20] at H
                      have c20b0 := eq_true c20
                      have c20b1 : decide (t205.size + a2.size ≤ 9223372036854775807) = true := decide_eq_true c20
                      try have c20b2 : (9223372036854775807 < t205.size + a2.size) = False := eq_false (Nat.not_lt.2 c20)
                      replace H := Option.bind_eq_some_iff.mp H
                      obtain ⟨⟨t210, t211, t212⟩, A210, H⟩ := H
                      replace H : (if t209 = 2 then (if ((t212 == 2) == (a2.toList != ([] : List UInt8))) = true then ((samphirelaw09_awake.f kj10).bind fun t213 => (some t213)) else (none)) else (none)) = some r := H
                      have A21 := Aside0.mk A210
                      clear A210
                      by_cases c22 : t209 = 2
                      · rw [if_pos c22] at H
                        have c22b0 : (t209 == 2) = true := beq_iff_eq.mpr c22
                        have c22b1 : (t209 != 2) = false := bne_eq_false_iff_eq.mpr c22
                        clear c22
                        by_cases c23 : ((t212 == 2) == (a2.toList != ([] : List UInt8))) = true
                        · rw [if_pos c23] at H
                          have c23b0 : ((t212 == 2) == (a2.toList != ([] : List UInt8))) = true := c23
                          (try (have c23b1 : decide ((t212 == 2) = (a2.toList != ([] : List UInt8))) = true := by simpa using c23))
                          (try (have c23b2 : ((t212 == 2) == (a2.toList != ([] : List UInt8))) = true := by simpa using c23))
                          have c23q : (t212 == 2) = (!a2.toList.isEmpty) := by
                            have h_ := c23
                            rw [beq_iff_eq] at h_
                            rw [h_]
                            cases a2.toList <;> rfl
                          clear c23
                          replace H := Option.bind_eq_some_iff.mp H
                          obtain ⟨t213, A240, H⟩ := H
                          replace H : (some t213) = some r := H
                          have A24 := Aside0.mk A240
                          clear A240
                          obtain rfl := Option.some.inj H
                          go_wp2_with (first | ((with_reducible refine gate_callee (f := 12) rfl ?_); refine goesL_ (some 50) rfl rfl Try.func12 (by kernel_rfl) rfl #[.string (t205.extract 0 ((ji16) : Int).toNat)] rfl (by (try simp only [List.map_toArray, List.map_cons, List.map_nil]); first | done | (simp only [hji16]; rfl) | rfl | (simp only [List.length_drop, List.length_take]; rfl)) ?_; (with_reducible refine (frame_Open.calls (t205.extract 0 ((ji16) : Int).toNat) t207 t208 t209 _ A19.out).mono ?_); rintro e w25 ⟨rfl, hb⟩; refine ⟨_, rfl, ?_⟩; have n0_ := Aside0.mk (below_step (by repeat (first | (with_reducible first | exact HB.out | apply below_alloc | apply pw_below_drewN | apply below_drew1) | exact HB.out)) hb); clear HB; have HB := n0_; clear n0_; (try clear hb); (try clear hb2); (try clear hk); (try clear hi)) | ((with_reducible refine gate_callee (f := 12) rfl ?_); refine goesL_ (some 58) rfl rfl Try.func12 (by kernel_rfl) rfl #[.string (t205 ++ a2)] rfl (by (try simp only [List.map_toArray, List.map_cons, List.map_nil]); first | done | rfl | (simp only [List.length_drop, List.length_take]; rfl)) ?_; (with_reducible refine (frame_Open.calls (t205 ++ a2) t210 t211 t212 _ A21.out).mono ?_); rintro e w26 ⟨rfl, hb⟩; refine ⟨_, rfl, ?_⟩; have n0_ := Aside0.mk (below_step (by repeat (first | (with_reducible first | exact HB.out | apply below_alloc | apply pw_below_drewN | apply below_drew1) | exact HB.out)) hb); clear HB; have HB := n0_; clear n0_; (try clear hb); (try clear hb2); (try clear hk); (try clear hi)) | (go_at_call 9; (with_reducible refine (samphirelaw09_awake.calls kj10  t213 _ A24.out).mono ?_); rintro e w27 ⟨rfl, hb⟩; have n0_ := Aside0.mk (below_step (by repeat (first | (with_reducible first | exact HB.out | apply below_alloc | apply pw_below_drewN | apply below_drew1) | exact HB.out)) hb); clear HB; have HB := n0_; clear n0_; (try clear hb); (try clear hb2); (try clear hk); (try clear hi)))
                          go_ret
                          exact ⟨by first | rfl | (simp [errW_none, errW_some] <;> rfl) | (simp only [← hji16]; first | rfl | (simp [errW_none, errW_some] <;> rfl)) | (simp [*, errW_none, errW_some] <;> rfl), by repeat (first | (with_reducible first | exact HB.out | apply below_alloc | apply pw_below_drewN | apply below_drew1) | exact HB.out)⟩
                        · rw [if_neg c23] at H
                          exact absurd H (by simp)
                      · rw [if_neg c22] at H
                        exact absurd H (by simp)
                    · rw [if_neg c20] at H
                      exact absurd H (by simp)
                  · rw [if_neg c18] at H
                    exact absurd H (by simp)
                · rw [if_neg c17] at H
                  exact absurd H (by simp)

/-- THE ONE PURE STATEMENT of samphirelaw09_FrameCut: yours. -/
def samphirelaw09_FrameCut.Pure : Prop := ∀ (a0 : Int) (a1 : ByteArray) (a2 : ByteArray) (a3 : Int), (Lit.int .u8 a0).wf = true → a1.size ≤ 140737488351232 → a2.size ≤ 140737488351232 → (Lit.int .u16 a3).wf = true → ∃ k, samphirelaw09_FrameCut.f k a0 a1 a2 a3 = some true
theorem samphirelaw09_FrameCut.walk (P : samphirelaw09_FrameCut.Pure) (a0 : Int) (a1 : ByteArray) (a2 : ByteArray) (a3 : Int) (w : World) (w0 : (Lit.int .u8 a0).wf = true) (w1 : a1.size ≤ 140737488351232) (w2 : a2.size ≤ 140737488351232) (w3 : (Lit.int .u16 a3).wf = true) :
    Calls Try.prog 6 #[.int .u8 a0, .string a1, .string a2, .int .u16 a3] w fun e w' => e = .returned (.bool true) ∧ Below w.heap.size w w' := by
  obtain ⟨k, h⟩ := P a0 a1 a2 a3 w0 w1 w2 w3
  refine (samphirelaw09_FrameCut.calls k a0 a1 a2 a3 true w h).mono ?_
  rintro e w' ⟨rfl, hd⟩
  exact ⟨rfl, hd⟩

/-! ### samphirelaw09_FrameApart: function 7 -/
def samphirelaw09_FrameApart.j0 : Nat → Int → Int → ByteArray → ByteArray → Bool → Option (Bool)
  | 0, _, _, _, _, _ => none
  | k + 1, x0, x1, x2, x3, x20 => if x20 = true then ((samphirelaw09_awake.f k).bind fun t214 => (some t214)) else ((frame_Seal.f k (wrap64 (1 + (wrap64 (Int.tmod x0 8)))) x2).bind fun bt215 => ((frame_Seal.f k (wrap64 (1 + (wrap64 (Int.tmod x1 8)))) x3).bind fun bt217 => (if bt215.2 = 0 then (if bt217.2 = 0 then (if (Int.tmod x0 8) = (Int.tmod x1 8) then (if ((bt215.1.toList == bt217.1.toList) == (x2.toList == x3.toList)) = true then ((samphirelaw09_awake.f k).bind fun t219 => (some t219)) else (none)) else (if ((bt215.1.toList == bt217.1.toList) == false) = true then ((samphirelaw09_awake.f k).bind fun t219 => (some t219)) else (none))) else (none)) else (none))))
def samphirelaw09_FrameApart.f (k : Nat) (a0 : Int) (a1 : Int) (a2 : ByteArray) (a3 : ByteArray) : Option (Bool) := if (a2.size : Int) > 300 then (samphirelaw09_FrameApart.j0 k a0 a1 a2 a3 true) else (samphirelaw09_FrameApart.j0 k a0 a1 a2 a3 (decide ((a3.size : Int) > 300)))
theorem samphirelaw09_FrameApart.mono_l : ∀ k, (∀ y0 y1 y2 y3 y4, LeO (samphirelaw09_FrameApart.j0 k y0 y1 y2 y3 y4) (samphirelaw09_FrameApart.j0 (k + 1) y0 y1 y2 y3 y4))
  | 0 => fun _ _ _ _ _ r h => by simp [samphirelaw09_FrameApart.j0] at h
  | k + 1 => by
    have ih0 := samphirelaw09_FrameApart.mono_l k
    · intro y0 y1 y2 y3 y4
      unfold samphirelaw09_FrameApart.j0
      repeat' first
      | (with_reducible exact ih0 _ _ _ _ _)
      | (with_reducible exact frame_Seal.mono _ _ _)
      | (with_reducible exact samphirelaw09_awake.mono _)
      | (with_reducible exact LeO.refl _)
      | (with_reducible exact LeO.none _)
      | (with_reducible refine LeO.ite ?_ ?_)
      | (with_reducible refine LeO.bind ?_ (fun _ => ?_))
      | exact ih0 _ _ _ _ _
      | exact frame_Seal.mono _ _ _
      | exact samphirelaw09_awake.mono _
      | exact LeO.none _
      | refine LeO.ite ?_ ?_
      | refine LeO.bind ?_ (fun _ => ?_)
theorem samphirelaw09_FrameApart.mono : ∀ a0 a1 a2 a3 k, LeO (samphirelaw09_FrameApart.f k a0 a1 a2 a3) (samphirelaw09_FrameApart.f (k + 1) a0 a1 a2 a3) := by
  intro a0 a1 a2 a3 k
  have ih0 := samphirelaw09_FrameApart.mono_l k
  unfold samphirelaw09_FrameApart.f
  repeat' first
      | (with_reducible exact ih0 _ _ _ _ _)
      | (with_reducible exact frame_Seal.mono _ _ _)
      | (with_reducible exact samphirelaw09_awake.mono _)
      | (with_reducible exact LeO.refl _)
      | (with_reducible exact LeO.none _)
      | (with_reducible refine LeO.ite ?_ ?_)
      | (with_reducible refine LeO.bind ?_ (fun _ => ?_))
      | exact ih0 _ _ _ _ _
      | exact frame_Seal.mono _ _ _
      | exact samphirelaw09_awake.mono _
      | exact LeO.none _
      | refine LeO.ite ?_ ?_
      | refine LeO.bind ?_ (fun _ => ?_)
set_option maxHeartbeats 8000000 in
set_option maxRecDepth 100000 in
theorem samphirelaw09_FrameApart.calls (k : Nat) (a0 : Int) (a1 : Int) (a2 : ByteArray) (a3 : ByteArray) (r : Bool) (w : World) (h : samphirelaw09_FrameApart.f k a0 a1 a2 a3 = some r) :
    Calls Try.prog 7 #[.int .u8 a0, .int .u8 a1, .string a2, .string a3] w fun e w' => e = .returned (.bool r) ∧ Below w.heap.size w w' := by
  have HB := Aside0.mk (Below.refl w.heap.size w)
  have H : (if (a2.size : Int) > 300 then (samphirelaw09_FrameApart.j0 k a0 a1 a2 a3 true) else (samphirelaw09_FrameApart.j0 k a0 a1 a2 a3 (decide ((a3.size : Int) > 300)))) = some r := h
  clear h
  have HC5 := Aside0.mk H
  clear H
  go_enter Try.func7, Try.ntmps7
  go_upto_region 1 with (fail)
  go_cut [20] (fun v20 wc => ∃ (kq : Nat) (x20_4 : Bool), v20 = .bool x20_4 ∧ Aside0 (samphirelaw09_FrameApart.j0 kq a0 a1 a2 a3 x20_4 = some r) ∧ Aside0 (kq ≤ k) ∧ Aside0 (Below w.heap.size w wc))
  case first =>
    have H := HC5.out
    clear HC5
    by_cases c6 : (a2.size : Int) > 300
    · rw [if_pos c6] at H
      have c6b0 : decide (300 < (a2.size : Int)) = true := decide_eq_true c6
      have c6b1 : decide (300 < a2.size) = true := decide_eq_true (by omega)
      clear c6
      (first | rw [c6b0] | (simp only [i64_w, i32_w]; rw [c6b0]) | skip)
      have H' := Aside0.mk H
      clear H
      go_wp2
      go_meet
      case rel => exact ⟨_, (true), (by first | rfl | (simp; done) | (simp [*]; done)), H', ⟨by first | omega | exact Nat.le_refl _⟩, ⟨by repeat (first | (with_reducible first | exact HB.out | apply below_alloc | apply pw_below_drewN | apply below_drew1) | exact HB.out)⟩⟩
    · rw [if_neg c6] at H
      have c6b0 : decide (300 < (a2.size : Int)) = false := decide_eq_false c6
      have c6b1 : decide (300 < a2.size) = false := decide_eq_false (by omega)
      clear c6
      (first | rw [c6b0] | (simp only [i64_w, i32_w]; rw [c6b0]) | skip)
      have H' := Aside0.mk H
      clear H
      go_wp2
      go_meet
      case rel => exact ⟨_, (decide ((a3.size : Int) > 300)), (by first | rfl | (simp; done) | (simp [*]; done)), H', ⟨by first | omega | exact Nat.le_refl _⟩, ⟨by repeat (first | (with_reducible first | exact HB.out | apply below_alloc | apply pw_below_drewN | apply below_drew1) | exact HB.out)⟩⟩
  case rest =>
    clear HC5
    try clear p2
    try clear c6
    try clear c6b0
    try clear c6b1
    obtain ⟨kq, x20_4, rfl, HA, HJ4, HB⟩ := hcut
    cases kq with
    | zero => exact absurd HA.out (by simp [samphirelaw09_FrameApart.j0])
    | succ kj4 =>
      have H := HA.out
      clear HA
      simp only [samphirelaw09_FrameApart.j0] at H
      by_cases c7 : x20_4 = true
      · subst c7
        have H1 : ((samphirelaw09_awake.f kj4).bind fun t214 => (some t214)) = some r := by rw [if_pos rfl] at H; exact H
        clear H
        have H := H1
        clear H1
        replace H := Option.bind_eq_some_iff.mp H
        obtain ⟨t214, A80, H⟩ := H
        replace H : (some t214) = some r := H
        have A8 := Aside0.mk A80
        clear A80
        obtain rfl := Option.some.inj H
        go_wp2_with (first | ((with_reducible refine gate_callee (f := 9) rfl ?_); refine goesL_ (some 21) rfl rfl Try.func9 (by kernel_rfl) rfl #[] rfl (by (try simp only [List.map_toArray, List.map_cons, List.map_nil]); first | done | rfl | (simp only [List.length_drop, List.length_take]; rfl)) ?_; (with_reducible refine (samphirelaw09_awake.calls kj4  t214 _ A8.out).mono ?_); rintro e w9 ⟨rfl, hb⟩; refine ⟨_, rfl, ?_⟩; have n0_ := Aside0.mk (below_step (by repeat (first | (with_reducible first | exact HB.out | apply below_alloc | apply pw_below_drewN | apply below_drew1) | exact HB.out)) hb); clear HB; have HB := n0_; clear n0_; (try clear hb); (try clear hb2); (try clear hk); (try clear hi)))
        go_ret
        exact ⟨by first | rfl | (simp [errW_none, errW_some] <;> rfl) | (simp [*, errW_none, errW_some] <;> rfl), by repeat (first | (with_reducible first | exact HB.out | apply below_alloc | apply pw_below_drewN | apply below_drew1) | exact HB.out)⟩
      · replace c7 := Bool.eq_false_iff.mpr c7
        subst c7
        have H1 : ((frame_Seal.f kj4 (wrap64 (1 + (wrap64 (Int.tmod a0 8)))) a2).bind fun bt215 => ((frame_Seal.f kj4 (wrap64 (1 + (wrap64 (Int.tmod a1 8)))) a3).bind fun bt217 => (if bt215.2 = 0 then (if bt217.2 = 0 then (if (Int.tmod a0 8) = (Int.tmod a1 8) then (if ((bt215.1.toList == bt217.1.toList) == (a2.toList == a3.toList)) = true then ((samphirelaw09_awake.f kj4).bind fun t219 => (some t219)) else (none)) else (if ((bt215.1.toList == bt217.1.toList) == false) = true then ((samphirelaw09_awake.f kj4).bind fun t219 => (some t219)) else (none))) else (none)) else (none)))) = some r := by rw [if_neg (show ¬ (false = true) by decide)] at H; exact H
        clear H
        have H := H1
        clear H1
        replace H := Option.bind_eq_some_iff.mp H
        obtain ⟨⟨t215, t216⟩, A100, H⟩ := H
        replace H : ((frame_Seal.f kj4 (wrap64 (1 + (wrap64 (Int.tmod a1 8)))) a3).bind fun bt217 => (if t216 = 0 then (if bt217.2 = 0 then (if (Int.tmod a0 8) = (Int.tmod a1 8) then (if ((t215.toList == bt217.1.toList) == (a2.toList == a3.toList)) = true then ((samphirelaw09_awake.f kj4).bind fun t219 => (some t219)) else (none)) else (if ((t215.toList == bt217.1.toList) == false) = true then ((samphirelaw09_awake.f kj4).bind fun t219 => (some t219)) else (none))) else (none)) else (none))) = some r := H
        have A10 := Aside0.mk A100
        clear A100
        replace H := Option.bind_eq_some_iff.mp H
        obtain ⟨⟨t217, t218⟩, A110, H⟩ := H
        replace H : (if t216 = 0 then (if t218 = 0 then (if (Int.tmod a0 8) = (Int.tmod a1 8) then (if ((t215.toList == t217.toList) == (a2.toList == a3.toList)) = true then ((samphirelaw09_awake.f kj4).bind fun t219 => (some t219)) else (none)) else (if ((t215.toList == t217.toList) == false) = true then ((samphirelaw09_awake.f kj4).bind fun t219 => (some t219)) else (none))) else (none)) else (none)) = some r := H
        have A11 := Aside0.mk A110
        clear A110
        by_cases c12 : t216 = 0
        · rw [if_pos c12] at H
          have c12b0 : (t216 == 0) = true := beq_iff_eq.mpr c12
          have c12b1 : (t216 != 0) = false := bne_eq_false_iff_eq.mpr c12
          clear c12
          by_cases c13 : t218 = 0
          · rw [if_pos c13] at H
            have c13b0 : (t218 == 0) = true := beq_iff_eq.mpr c13
            have c13b1 : (t218 != 0) = false := bne_eq_false_iff_eq.mpr c13
            clear c13
            by_cases c14 : (Int.tmod a0 8) = (Int.tmod a1 8)
            · rw [if_pos c14] at H
              have c14b0 : ((Int.tmod a0 8) == (Int.tmod a1 8)) = true := beq_iff_eq.mpr c14
              have c14b1 : ((Int.tmod a0 8) != (Int.tmod a1 8)) = false := bne_eq_false_iff_eq.mpr c14
              clear c14
              by_cases c15 : ((t215.toList == t217.toList) == (a2.toList == a3.toList)) = true
              · rw [if_pos c15] at H
                have c15b0 : ((t215.toList == t217.toList) == (a2.toList == a3.toList)) = true := c15
                (try (have c15b1 : decide ((t215.toList == t217.toList) = (a2.toList == a3.toList)) = true := by simpa using c15))
                (try (have c15b2 : ((t215.toList == t217.toList) == (a2.toList == a3.toList)) = true := by simpa using c15))
                clear c15
                replace H := Option.bind_eq_some_iff.mp H
                obtain ⟨t219, A160, H⟩ := H
                replace H : (some t219) = some r := H
                have A16 := Aside0.mk A160
                clear A160
                obtain rfl := Option.some.inj H
                go_wp2_with (first | ((with_reducible refine gate_callee (f := 10) rfl ?_); refine goesL_ (some 28) rfl rfl Try.func10 (by kernel_rfl) rfl #[.int .i64 (wrap64 (1 + (wrap64 (Int.tmod a0 8)))), .string a2] rfl (by (try simp only [List.map_toArray, List.map_cons, List.map_nil]); first | done | rfl | (simp only [List.length_drop, List.length_take]; rfl)) ?_; (with_reducible refine (frame_Seal.calls kj4 (wrap64 (1 + (wrap64 (Int.tmod a0 8)))) a2 t215 t216 _ A10.out).mono ?_); rintro e w17 ⟨rfl, hb⟩; refine ⟨_, rfl, ?_⟩; have n0_ := Aside0.mk (below_step (by repeat (first | (with_reducible first | exact HB.out | apply below_alloc | apply pw_below_drewN | apply below_drew1) | exact HB.out)) hb); clear HB; have HB := n0_; clear n0_; (try clear hb); (try clear hb2); (try clear hk); (try clear hi)) | ((with_reducible refine gate_callee (f := 10) rfl ?_); refine goesL_ (some 37) rfl rfl Try.func10 (by kernel_rfl) rfl #[.int .i64 (wrap64 (1 + (wrap64 (Int.tmod a1 8)))), .string a3] rfl (by (try simp only [List.map_toArray, List.map_cons, List.map_nil]); first | done | rfl | (simp only [List.length_drop, List.length_take]; rfl)) ?_; (with_reducible refine (frame_Seal.calls kj4 (wrap64 (1 + (wrap64 (Int.tmod a1 8)))) a3 t217 t218 _ A11.out).mono ?_); rintro e w18 ⟨rfl, hb⟩; refine ⟨_, rfl, ?_⟩; have n0_ := Aside0.mk (below_step (by repeat (first | (with_reducible first | exact HB.out | apply below_alloc | apply pw_below_drewN | apply below_drew1) | exact HB.out)) hb); clear HB; have HB := n0_; clear n0_; (try clear hb); (try clear hb2); (try clear hk); (try clear hi)) | (go_at_call 9; (with_reducible refine (samphirelaw09_awake.calls kj4  t219 _ A16.out).mono ?_); rintro e w19 ⟨rfl, hb⟩; have n0_ := Aside0.mk (below_step (by repeat (first | (with_reducible first | exact HB.out | apply below_alloc | apply pw_below_drewN | apply below_drew1) | exact HB.out)) hb); clear HB; have HB := n0_; clear n0_; (try clear hb); (try clear hb2); (try clear hk); (try clear hi)))
                go_ret
                exact ⟨by first | rfl | (simp [errW_none, errW_some] <;> rfl) | (simp [*, errW_none, errW_some] <;> rfl), by repeat (first | (with_reducible first | exact HB.out | apply below_alloc | apply pw_below_drewN | apply below_drew1) | exact HB.out)⟩
              · rw [if_neg c15] at H
                exact absurd H (by simp)
            · rw [if_neg c14] at H
              have c14b0 : ((Int.tmod a0 8) == (Int.tmod a1 8)) = false := beq_eq_false_iff_ne.mpr c14
              have c14b1 : ((Int.tmod a0 8) != (Int.tmod a1 8)) = true := bne_iff_ne.mpr c14
              clear c14
              by_cases c15 : ((t215.toList == t217.toList) == false) = true
              · rw [if_pos c15] at H
                have c15b0 : ((t215.toList == t217.toList) == false) = true := c15
                have c15b1 : (t215.toList == t217.toList) = false := by simpa using c15
                clear c15
                replace H := Option.bind_eq_some_iff.mp H
                obtain ⟨t219, A160, H⟩ := H
                replace H : (some t219) = some r := H
                have A16 := Aside0.mk A160
                clear A160
                obtain rfl := Option.some.inj H
                go_wp2_with (first | ((with_reducible refine gate_callee (f := 10) rfl ?_); refine goesL_ (some 28) rfl rfl Try.func10 (by kernel_rfl) rfl #[.int .i64 (wrap64 (1 + (wrap64 (Int.tmod a0 8)))), .string a2] rfl (by (try simp only [List.map_toArray, List.map_cons, List.map_nil]); first | done | rfl | (simp only [List.length_drop, List.length_take]; rfl)) ?_; (with_reducible refine (frame_Seal.calls kj4 (wrap64 (1 + (wrap64 (Int.tmod a0 8)))) a2 t215 t216 _ A10.out).mono ?_); rintro e w17 ⟨rfl, hb⟩; refine ⟨_, rfl, ?_⟩; have n0_ := Aside0.mk (below_step (by repeat (first | (with_reducible first | exact HB.out | apply below_alloc | apply pw_below_drewN | apply below_drew1) | exact HB.out)) hb); clear HB; have HB := n0_; clear n0_; (try clear hb); (try clear hb2); (try clear hk); (try clear hi)) | ((with_reducible refine gate_callee (f := 10) rfl ?_); refine goesL_ (some 37) rfl rfl Try.func10 (by kernel_rfl) rfl #[.int .i64 (wrap64 (1 + (wrap64 (Int.tmod a1 8)))), .string a3] rfl (by (try simp only [List.map_toArray, List.map_cons, List.map_nil]); first | done | rfl | (simp only [List.length_drop, List.length_take]; rfl)) ?_; (with_reducible refine (frame_Seal.calls kj4 (wrap64 (1 + (wrap64 (Int.tmod a1 8)))) a3 t217 t218 _ A11.out).mono ?_); rintro e w18 ⟨rfl, hb⟩; refine ⟨_, rfl, ?_⟩; have n0_ := Aside0.mk (below_step (by repeat (first | (with_reducible first | exact HB.out | apply below_alloc | apply pw_below_drewN | apply below_drew1) | exact HB.out)) hb); clear HB; have HB := n0_; clear n0_; (try clear hb); (try clear hb2); (try clear hk); (try clear hi)) | (go_at_call 9; (with_reducible refine (samphirelaw09_awake.calls kj4  t219 _ A16.out).mono ?_); rintro e w19 ⟨rfl, hb⟩; have n0_ := Aside0.mk (below_step (by repeat (first | (with_reducible first | exact HB.out | apply below_alloc | apply pw_below_drewN | apply below_drew1) | exact HB.out)) hb); clear HB; have HB := n0_; clear n0_; (try clear hb); (try clear hb2); (try clear hk); (try clear hi)))
                go_ret
                exact ⟨by first | rfl | (simp [errW_none, errW_some] <;> rfl) | (simp [*, errW_none, errW_some] <;> rfl), by repeat (first | (with_reducible first | exact HB.out | apply below_alloc | apply pw_below_drewN | apply below_drew1) | exact HB.out)⟩
              · rw [if_neg c15] at H
                exact absurd H (by simp)
          · rw [if_neg c13] at H
            exact absurd H (by simp)
        · rw [if_neg c12] at H
          exact absurd H (by simp)

/-- THE ONE PURE STATEMENT of samphirelaw09_FrameApart: yours. -/
def samphirelaw09_FrameApart.Pure : Prop := ∀ (a0 : Int) (a1 : Int) (a2 : ByteArray) (a3 : ByteArray), (Lit.int .u8 a0).wf = true → (Lit.int .u8 a1).wf = true → a2.size ≤ 140737488351232 → a3.size ≤ 140737488351232 → ∃ k, samphirelaw09_FrameApart.f k a0 a1 a2 a3 = some true
theorem samphirelaw09_FrameApart.walk (P : samphirelaw09_FrameApart.Pure) (a0 : Int) (a1 : Int) (a2 : ByteArray) (a3 : ByteArray) (w : World) (w0 : (Lit.int .u8 a0).wf = true) (w1 : (Lit.int .u8 a1).wf = true) (w2 : a2.size ≤ 140737488351232) (w3 : a3.size ≤ 140737488351232) :
    Calls Try.prog 7 #[.int .u8 a0, .int .u8 a1, .string a2, .string a3] w fun e w' => e = .returned (.bool true) ∧ Below w.heap.size w w' := by
  obtain ⟨k, h⟩ := P a0 a1 a2 a3 w0 w1 w2 w3
  refine (samphirelaw09_FrameApart.calls k a0 a1 a2 a3 true w h).mono ?_
  rintro e w' ⟨rfl, hd⟩
  exact ⟨rfl, hd⟩

end Go.Proofs.Ytjmcdnhbiamokaa.Q
