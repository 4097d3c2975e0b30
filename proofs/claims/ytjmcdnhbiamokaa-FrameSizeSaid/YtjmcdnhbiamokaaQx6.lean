/- Walks of Go functions, each against a plain function over numbers and lists; written by this session's program printx.py over the kit's print; no condition but those that each theorem states. -/
import Derived.Test.YtjmcdnhbiamokaaQx0
import Derived.Test.YtjmcdnhbiamokaaQx1
import Derived.Test.YtjmcdnhbiamokaaQx2
namespace Go.Proofs.Ytjmcdnhbiamokaa.Q
open Go.RowKit Go.Proofs.YtjmcdnhbiamokaaW.PrintWords Go.Proofs.YtjmcdnhbiamokaaW.PrintLast Go.Proofs.YtjmcdnhbiamokaaW.PrintMore
attribute [local go_sem] max2_int min2_int max_two min_two max_three min_three max_four min_four   -- for this text's walks alone
set_option linter.unusedVariables false
set_option linter.unusedSimpArgs false

/-! ### samphirelaw09_FrameSize: function 8 -/
def samphirelaw09_FrameSize.j0 : Nat → Int → ByteArray → ByteArray → Int → Bool → Option (Bool)
  | 0, _, _, _, _, _ => none
  | k + 1, x0, x1, x5, x6, x22 => if x22 = true then (if x5.toList = ([] : List UInt8) then (if x6 = 1 then ((samphirelaw09_awake.f k).bind fun t223 => (some t223)) else (none)) else (none)) else (if x6 = 0 then ((samphireref08_Number.f k (IntKind.u64.wrap ((x1.size : Int)))).bind fun t224 => (if (x5.size : Int) = (wrap64 ((wrap64 (10 + (t224.size : Int))) + (x1.size : Int))) then (if 5 < (x5.size : Int) then (if (bt x5 5) = ((x0) % 256) then ((samphirelaw09_awake.f k).bind fun t225 => (some t225)) else (none)) else (none)) else (none))) else (none))
def samphirelaw09_FrameSize.f (k : Nat) (a0 : Int) (a1 : ByteArray) : Option (Bool) := if (a1.size : Int) > 300 then ((samphirelaw09_awake.f k).bind fun t220 => (some t220)) else ((frame_Seal.f k a0 a1).bind fun bt221 => (if a0 < 1 then (samphirelaw09_FrameSize.j0 k a0 a1 bt221.1 bt221.2 true) else (samphirelaw09_FrameSize.j0 k a0 a1 bt221.1 bt221.2 (decide (a0 > 8)))))
theorem samphirelaw09_FrameSize.mono_l : ∀ k, (∀ y0 y1 y2 y3 y4, LeO (samphirelaw09_FrameSize.j0 k y0 y1 y2 y3 y4) (samphirelaw09_FrameSize.j0 (k + 1) y0 y1 y2 y3 y4))
  | 0 => fun _ _ _ _ _ r h => by simp [samphirelaw09_FrameSize.j0] at h
  | k + 1 => by
    have ih0 := samphirelaw09_FrameSize.mono_l k
    · intro y0 y1 y2 y3 y4
      unfold samphirelaw09_FrameSize.j0
      repeat' first
      | (with_reducible exact ih0 _ _ _ _ _)
      | (with_reducible exact frame_Seal.mono _ _ _)
      | (with_reducible exact samphirelaw09_awake.mono _)
      | (with_reducible exact samphireref08_Number.mono _ _)
      | (with_reducible exact LeO.refl _)
      | (with_reducible exact LeO.none _)
      | (with_reducible refine LeO.ite ?_ ?_)
      | (with_reducible refine LeO.bind ?_ (fun _ => ?_))
      | exact ih0 _ _ _ _ _
      | exact frame_Seal.mono _ _ _
      | exact samphirelaw09_awake.mono _
      | exact samphireref08_Number.mono _ _
      | exact LeO.none _
      | refine LeO.ite ?_ ?_
      | refine LeO.bind ?_ (fun _ => ?_)
theorem samphirelaw09_FrameSize.mono : ∀ a0 a1 k, LeO (samphirelaw09_FrameSize.f k a0 a1) (samphirelaw09_FrameSize.f (k + 1) a0 a1) := by
  intro a0 a1 k
  have ih0 := samphirelaw09_FrameSize.mono_l k
  unfold samphirelaw09_FrameSize.f
  repeat' first
      | (with_reducible exact ih0 _ _ _ _ _)
      | (with_reducible exact frame_Seal.mono _ _ _)
      | (with_reducible exact samphirelaw09_awake.mono _)
      | (with_reducible exact samphireref08_Number.mono _ _)
      | (with_reducible exact LeO.refl _)
      | (with_reducible exact LeO.none _)
      | (with_reducible refine LeO.ite ?_ ?_)
      | (with_reducible refine LeO.bind ?_ (fun _ => ?_))
      | exact ih0 _ _ _ _ _
      | exact frame_Seal.mono _ _ _
      | exact samphirelaw09_awake.mono _
      | exact samphireref08_Number.mono _ _
      | exact LeO.none _
      | refine LeO.ite ?_ ?_
      | refine LeO.bind ?_ (fun _ => ?_)
set_option maxHeartbeats 8000000 in
set_option maxRecDepth 100000 in
theorem samphirelaw09_FrameSize.calls (k : Nat) (a0 : Int) (a1 : ByteArray) (r : Bool) (w : World) (h : samphirelaw09_FrameSize.f k a0 a1 = some r) :
    Calls Try.prog 8 #[.int .i64 a0, .string a1] w fun e w' => e = .returned (.bool r) ∧ Below w.heap.size w w' := by
  have HB := Aside0.mk (Below.refl w.heap.size w)
  have H : (if (a1.size : Int) > 300 then ((samphirelaw09_awake.f k).bind fun t220 => (some t220)) else ((frame_Seal.f k a0 a1).bind fun bt221 => (if a0 < 1 then (samphirelaw09_FrameSize.j0 k a0 a1 bt221.1 bt221.2 true) else (samphirelaw09_FrameSize.j0 k a0 a1 bt221.1 bt221.2 (decide (a0 > 8)))))) = some r := h
  clear h
  by_cases c3 : (a1.size : Int) > 300
  · rw [if_pos c3] at H
    have c3b0 : decide (300 < (a1.size : Int)) = true := decide_eq_true c3
    have c3b1 : decide (300 < a1.size) = true := decide_eq_true (by omega)
    clear c3
    replace H := Option.bind_eq_some_iff.mp H
    obtain ⟨t220, A40, H⟩ := H
    replace H : (some t220) = some r := H
    have A4 := Aside0.mk A40
    clear A40
    obtain rfl := Option.some.inj H
    go_enter Try.func8, Try.ntmps8
    go_wp2_with (first | ((with_reducible refine gate_callee (f := 9) rfl ?_); refine goesL_ (some 10) rfl rfl Try.func9 (by kernel_rfl) rfl #[] rfl (by (try simp only [List.map_toArray, List.map_cons, List.map_nil]); first | done | rfl | (simp only [List.length_drop, List.length_take]; rfl)) ?_; (with_reducible refine (samphirelaw09_awake.calls k  t220 _ A4.out).mono ?_); rintro e w5 ⟨rfl, hb⟩; refine ⟨_, rfl, ?_⟩; have n0_ := Aside0.mk (below_step (by repeat (first | (with_reducible first | exact HB.out | apply below_alloc | apply pw_below_drewN | apply below_drew1) | exact HB.out)) hb); clear HB; have HB := n0_; clear n0_; (try clear hb); (try clear hb2); (try clear hk); (try clear hi)))
    go_ret
    exact ⟨by first | rfl | (simp [errW_none, errW_some] <;> rfl) | (simp [*, errW_none, errW_some] <;> rfl), by repeat (first | (with_reducible first | exact HB.out | apply below_alloc | apply pw_below_drewN | apply below_drew1) | exact HB.out)⟩
  · rw [if_neg c3] at H
    have c3b0 : decide (300 < (a1.size : Int)) = false := decide_eq_false c3
    have c3b1 : decide (300 < a1.size) = false := decide_eq_false (by omega)
    clear c3
    replace H := Option.bind_eq_some_iff.mp H
    obtain ⟨⟨t221, t222⟩, A60, H⟩ := H
    replace H : (if a0 < 1 then (samphirelaw09_FrameSize.j0 k a0 a1 t221 t222 true) else (samphirelaw09_FrameSize.j0 k a0 a1 t221 t222 (decide (a0 > 8)))) = some r := H
    have A6 := Aside0.mk A60
    clear A60
    have HC7 := Aside0.mk H
    clear H
    go_enter Try.func8, Try.ntmps8
    go_upto_region 4 with (first | ((with_reducible refine gate_callee (f := 10) rfl ?_); refine goesL_ (some 14) rfl rfl Try.func10 (by kernel_rfl) rfl #[.int .i64 a0, .string a1] rfl (by (try simp only [List.map_toArray, List.map_cons, List.map_nil]); first | done | rfl | (simp only [List.length_drop, List.length_take]; rfl)) ?_; (with_reducible refine (frame_Seal.calls k a0 a1 t221 t222 _ A6.out).mono ?_); rintro e w8 ⟨rfl, hb⟩; refine ⟨_, rfl, ?_⟩; have n0_ := Aside0.mk (below_step (by repeat (first | (with_reducible first | exact HB.out | apply below_alloc | apply pw_below_drewN | apply below_drew1) | exact HB.out)) hb); clear HB; have HB := n0_; clear n0_; (try clear hb); (try clear hb2); (try clear hk); (try clear hi)))
    (try simp only [Act.put, List.setIfInBounds_toArray, List.set_cons_zero, List.set_cons_succ])
    go_cut [22] (fun v22 wc => ∃ (kq : Nat) (x22_6 : Bool), v22 = .bool x22_6 ∧ Aside0 (samphirelaw09_FrameSize.j0 kq a0 a1 t221 t222 x22_6 = some r) ∧ Aside0 (kq ≤ k) ∧ Aside0 (Below w.heap.size w wc))
    case first =>
      have H := HC7.out
      clear HC7
      by_cases c9 : a0 < 1
      · rw [if_pos c9] at H
        have c9b0 : decide (a0 < 1) = true := decide_eq_true c9
        clear c9
        (first | rw [c9b0] | (simp only [i64_w, i32_w]; rw [c9b0]) | skip)
        have H' := Aside0.mk H
        clear H
        go_wp2
        go_meet
        case rel => exact ⟨_, (true), (by first | rfl | (simp; done) | (simp [*]; done)), H', ⟨by first | omega | exact Nat.le_refl _⟩, ⟨by repeat (first | (with_reducible first | exact HB.out | apply below_alloc | apply pw_below_drewN | apply below_drew1) | exact HB.out)⟩⟩
      · rw [if_neg c9] at H
        have c9b0 : decide (a0 < 1) = false := decide_eq_false c9
        clear c9
        (first | rw [c9b0] | (simp only [i64_w, i32_w]; rw [c9b0]) | skip)
        have H' := Aside0.mk H
        clear H
        go_wp2
        go_meet
        case rel => exact ⟨_, (decide (a0 > 8)), (by first | rfl | (simp; done) | (simp [*]; done)), H', ⟨by first | omega | exact Nat.le_refl _⟩, ⟨by repeat (first | (with_reducible first | exact HB.out | apply below_alloc | apply pw_below_drewN | apply below_drew1) | exact HB.out)⟩⟩
    case rest =>
      clear HC7
      try clear c1
      try clear p2
      try clear c3
      try clear c3b0
      try clear c3b1
      try clear c8
      try clear c9
      try clear c9b0
      obtain ⟨kq, x22_6, rfl, HA, HJ6, HB⟩ := hcut
      cases kq with
      | zero => exact absurd HA.out (by simp [samphirelaw09_FrameSize.j0])
      | succ kj6 =>
        have H := HA.out
        clear HA
        simp only [samphirelaw09_FrameSize.j0] at H
        by_cases c10 : x22_6 = true
        · subst c10
          have H1 : (if t221.toList = ([] : List UInt8) then (if t222 = 1 then ((samphirelaw09_awake.f kj6).bind fun t223 => (some t223)) else (none)) else (none)) = some r := by rw [if_pos rfl] at H; exact H
          clear H
          have H := H1
          clear H1
          by_cases c11 : t221.toList = ([] : List UInt8)
          · rw [if_pos c11] at H
            have c11b0 : (t221.toList == ([] : List UInt8)) = true := beq_iff_eq.mpr c11
            have c11b1 : (t221.toList != ([] : List UInt8)) = false := bne_eq_false_iff_eq.mpr c11
            clear c11
            by_cases c12 : t222 = 1
            · rw [if_pos c12] at H
              have c12b0 : (t222 == 1) = true := beq_iff_eq.mpr c12
              have c12b1 : (t222 != 1) = false := bne_eq_false_iff_eq.mpr c12
              clear c12
              replace H := Option.bind_eq_some_iff.mp H
              obtain ⟨t223, A130, H⟩ := H
              replace H : (some t223) = some r := H
              have A13 := Aside0.mk A130
              clear A130
              obtain rfl := Option.some.inj H
              go_wp2_with (first | (go_at_call 9; (with_reducible refine (samphirelaw09_awake.calls kj6  t223 _ A13.out).mono ?_); rintro e w14 ⟨rfl, hb⟩; have n0_ := Aside0.mk (below_step (by repeat (first | (with_reducible first | exact HB.out | apply below_alloc | apply pw_below_drewN | apply below_drew1) | exact HB.out)) hb); clear HB; have HB := n0_; clear n0_; (try clear hb); (try clear hb2); (try clear hk); (try clear hi)))
              go_ret
              exact ⟨by first | rfl | (simp [errW_none, errW_some] <;> rfl) | (simp [*, errW_none, errW_some] <;> rfl), by repeat (first | (with_reducible first | exact HB.out | apply below_alloc | apply pw_below_drewN | apply below_drew1) | exact HB.out)⟩
            · rw [if_neg c12] at H
              exact absurd H (by simp)
          · rw [if_neg c11] at H
            exact absurd H (by simp)
        · replace c10 := Bool.eq_false_iff.mpr c10
          subst c10
          have H1 : (if t222 = 0 then ((samphireref08_Number.f kj6 (IntKind.u64.wrap ((a1.size : Int)))).bind fun t224 => (if (t221.size : Int) = (wrap64 ((wrap64 (10 + (t224.size : Int))) + (a1.size : Int))) then (if 5 < (t221.size : Int) then (if (bt t221 5) = ((a0) % 256) then ((samphirelaw09_awake.f kj6).bind fun t225 => (some t225)) else (none)) else (none)) else (none))) else (none)) = some r := by rw [if_neg (show ¬ (false = true) by decide)] at H; exact H
          clear H
          have H := H1
          clear H1
          by_cases c15 : t222 = 0
          · rw [if_pos c15] at H
            have c15b0 : (t222 == 0) = true := beq_iff_eq.mpr c15
            have c15b1 : (t222 != 0) = false := bne_eq_false_iff_eq.mpr c15
            clear c15
            replace H := Option.bind_eq_some_iff.mp H
            obtain ⟨t224, A160, H⟩ := H
            replace H : (if (t221.size : Int) = (wrap64 ((wrap64 (10 + (t224.size : Int))) + (a1.size : Int))) then (if 5 < (t221.size : Int) then (if (bt t221 5) = ((a0) % 256) then ((samphirelaw09_awake.f kj6).bind fun t225 => (some t225)) else (none)) else (none)) else (none)) = some r := H
            have A16 := Aside0.mk A160
            clear A160
            by_cases c17 : (t221.size : Int) = (wrap64 ((wrap64 (10 + (t224.size : Int))) + (a1.size : Int)))
            · rw [if_pos c17] at H
              have c17b0 : ((t221.size : Int) == (wrap64 ((wrap64 (10 + (t224.size : Int))) + (a1.size : Int)))) = true := beq_iff_eq.mpr c17
              have c17b1 : ((t221.size : Int) != (wrap64 ((wrap64 (10 + (t224.size : Int))) + (a1.size : Int)))) = false := bne_eq_false_iff_eq.mpr c17
              clear c17
              by_cases c18 : 5 < (t221.size : Int)
              · rw [if_pos c18] at H
                have c18b0 : decide (5 < (t221.size : Int)) = true := decide_eq_true c18
                have c18b1 : decide (5 < t221.size) = true := decide_eq_true (by omega)
                clear c18
                by_cases c20 : (bt t221 5) = ((a0) % 256)
                · rw [if_pos c20] at H
                  have c20b0 : ((bt t221 5) == ((a0) % 256)) = true := beq_iff_eq.mpr c20
                  have c20b1 : ((bt t221 5) != ((a0) % 256)) = false := bne_eq_false_iff_eq.mpr c20
                  clear c20
                  replace H := Option.bind_eq_some_iff.mp H
                  obtain ⟨t225, A210, H⟩ := H
                  replace H : (some t225) = some r := H
                  have A21 := Aside0.mk A210
                  clear A210
                  obtain rfl := Option.some.inj H
                  go_wp2_with (first | (go_at_call 14; (with_reducible refine (samphireref08_Number.calls kj6 (IntKind.u64.wrap ((a1.size : Int))) t224 _ A16.out).mono ?_); rintro e w22 ⟨rfl, hb⟩; have n0_ := Aside0.mk (below_step (by repeat (first | (with_reducible first | exact HB.out | apply below_alloc | apply pw_below_drewN | apply below_drew1) | exact HB.out)) hb); clear HB; have HB := n0_; clear n0_; (try clear hb); (try clear hb2); (try clear hk); (try clear hi); have p19 : 0 ≤ (5 : Int) := (by omega); have q19 : 5 < t221.size := (by have : (5 : Int) < (t221.size : Int) := of_decide_eq_true (by first | (with_reducible assumption) | assumption); omega); have hx19 : ∀ h : 5 < t221.size, ((t221[5]'h).toNat : Int) = bt t221 5 := bt_at t221 5; clear p19; have qi19 : (5 < (t221.size : Int)) = True := eq_true (of_decide_eq_true (by first | (with_reducible assumption) | assumption)); replace q19 := eq_true q19) | (go_at_call 9; (with_reducible refine (samphirelaw09_awake.calls kj6  t225 _ A21.out).mono ?_); rintro e w23 ⟨rfl, hb⟩; have n0_ := Aside0.mk (below_step (by repeat (first | (with_reducible first | exact HB.out | apply below_alloc | apply pw_below_drewN | apply below_drew1) | exact HB.out)) hb); clear HB; have HB := n0_; clear n0_; (try clear hb); (try clear hb2); (try clear hk); (try clear hi)))
                  go_ret
                  exact ⟨by first | rfl | (simp [errW_none, errW_some] <;> rfl) | (simp [*, errW_none, errW_some] <;> rfl), by repeat (first | (with_reducible first | exact HB.out | apply below_alloc | apply pw_below_drewN | apply below_drew1) | exact HB.out)⟩
                · rw [if_neg c20] at H
                  exact absurd H (by simp)
              · rw [if_neg c18] at H
                exact absurd H (by simp)
            · rw [if_neg c17] at H
              exact absurd H (by simp)
          · rw [if_neg c15] at H
            exact absurd H (by simp)

/-- THE ONE PURE STATEMENT of samphirelaw09_FrameSize: yours. -/
def samphirelaw09_FrameSize.Pure : Prop := ∀ (a0 : Int) (a1 : ByteArray), (Lit.int .i64 a0).wf = true → a1.size ≤ 140737488351232 → ∃ k, samphirelaw09_FrameSize.f k a0 a1 = some true
theorem samphirelaw09_FrameSize.walk (P : samphirelaw09_FrameSize.Pure) (a0 : Int) (a1 : ByteArray) (w : World) (w0 : (Lit.int .i64 a0).wf = true) (w1 : a1.size ≤ 140737488351232) :
    Calls Try.prog 8 #[.int .i64 a0, .string a1] w fun e w' => e = .returned (.bool true) ∧ Below w.heap.size w w' := by
  obtain ⟨k, h⟩ := P a0 a1 w0 w1
  refine (samphirelaw09_FrameSize.calls k a0 a1 true w h).mono ?_
  rintro e w' ⟨rfl, hd⟩
  exact ⟨rfl, hd⟩

end Go.Proofs.Ytjmcdnhbiamokaa.Q
