/- Walks of Go functions, each against a plain function over numbers and lists; written by this session's program printx.py over the kit's print; no condition but those that each theorem states. -/
import Derived.Test.YtabfaoghacamlaaQx0
import Derived.Test.YtabfaoghacamlaaQx1
import Derived.Test.YtabfaoghacamlaaQx3
import Derived.Test.YtabfaoghacamlaaQx4
namespace Go.Proofs.Ytabfaoghacamlaa.Q
open Go.RowKit Go.Proofs.YtabfaoghacamlaaW.PrintWords Go.Proofs.YtabfaoghacamlaaW.PrintLast Go.Proofs.YtabfaoghacamlaaW.PrintMore
attribute [local go_sem] max2_int min2_int max_two min_two max_three min_three max_four min_four   -- for this text's walks alone
set_option linter.unusedVariables false
set_option linter.unusedSimpArgs false

/-! ### samphirelaw17_SlotsPlaces: function 4 -/
mutual
def samphirelaw17_SlotsPlaces.j0 : Nat → List Int → Int → Int → Bool → Option (Bool)
  | 0, _, _, _, _ => none
  | k + 1, x2, x7, x8, x34 => if x34 = true then ((samphirelaw17_awake.f k).bind fun t216 => (some t216)) else ((slots_New.f x7).bind fun bt217 => ((slots_Add.f k bt217.1 bt217.2.1 bt217.2.2.1 (⟨#[111, 108, 100]⟩ : ByteArray) (IntKind.u64.wrap (64 - x8)) ([] : List Int) 0).bind fun bt224 => ((slots_Add.f k bt224.1 bt224.2.1 bt224.2.2.1 (⟨#[110, 101, 119]⟩ : ByteArray) x8 x2 0).bind fun bt235 => (if bt224.2.2.2.2.2 = 0 then (if bt235.2.2.2.2.2 = 0 then (if (bt235.2.2.1.length : Int) = x7 then (samphirelaw17_SlotsPlaces.j1 k x2 x8 (bt235.2.2.2.2.1 != x7) bt235.1 bt235.2.1 bt235.2.2.1) else (samphirelaw17_SlotsPlaces.j1 k x2 x8 true bt235.1 bt235.2.1 bt235.2.2.1)) else (samphirelaw17_SlotsPlaces.j1 k x2 x8 true bt235.1 bt235.2.1 bt235.2.2.1)) else (samphirelaw17_SlotsPlaces.j1 k x2 x8 true bt235.1 bt235.2.1 bt235.2.2.1)))))
def samphirelaw17_SlotsPlaces.j1 : Nat → List Int → Int → Bool → Int → Int → List ByteArray → Option (Bool)
  | 0, _, _, _, _, _, _ => none
  | k + 1, x2, x8, x77, x246000, x246001, x246002 => if x77 = true then (some false) else (samphirelaw17_SlotsPlaces.l0 k x2 x8 x246002 (x246002.length : Int) 0)
def samphirelaw17_SlotsPlaces.l0 : Nat → List Int → Int → List ByteArray → Int → Int → Option (Bool)
  | 0, _, _, _, _, _ => none
  | k + 1, x2, x8, x79, x80, x81 => if x81 < x80 then (if 0 ≤ x81 then (if x81 < (x79.length : Int) then (if x81 < (x2.length : Int) then (if (((rdOf ByteArray.empty x79 x81).toList == ([110, 101, 119] : List UInt8)) != (decide ((Int.tmod (rd x2 x81) 64) < x8))) = true then (some false) else (samphirelaw17_SlotsPlaces.l0 k x2 x8 x79 x80 (wrap64 (x81 + 1)))) else (none)) else (none)) else (none)) else ((samphirelaw17_awake.f k).bind fun t249 => (some t249))
end
def samphirelaw17_SlotsPlaces.f (k : Nat) (a0 : Int) (a1 : Int) (l2 : List Int) : Option (Bool) := if (l2.length : Int) < (wrap64 (1 + (wrap64 (Int.tmod a0 8)))) then (samphirelaw17_SlotsPlaces.j0 k l2 (wrap64 (1 + (wrap64 (Int.tmod a0 8)))) (IntKind.u64.wrap (1 + (IntKind.u64.wrap (Int.tmod a1 63)))) true) else (samphirelaw17_SlotsPlaces.j0 k l2 (wrap64 (1 + (wrap64 (Int.tmod a0 8)))) (IntKind.u64.wrap (1 + (IntKind.u64.wrap (Int.tmod a1 63)))) (decide ((l2.length : Int) > 60)))
theorem samphirelaw17_SlotsPlaces.mono_l : ∀ k, (∀ y0 y1 y2 y3, LeO (samphirelaw17_SlotsPlaces.j0 k y0 y1 y2 y3) (samphirelaw17_SlotsPlaces.j0 (k + 1) y0 y1 y2 y3)) ∧ (∀ y0 y1 y2 y3 y4 y5, LeO (samphirelaw17_SlotsPlaces.j1 k y0 y1 y2 y3 y4 y5) (samphirelaw17_SlotsPlaces.j1 (k + 1) y0 y1 y2 y3 y4 y5)) ∧ (∀ y0 y1 y2 y3 y4, LeO (samphirelaw17_SlotsPlaces.l0 k y0 y1 y2 y3 y4) (samphirelaw17_SlotsPlaces.l0 (k + 1) y0 y1 y2 y3 y4))
  | 0 => ⟨fun _ _ _ _ r h => by simp [samphirelaw17_SlotsPlaces.j0] at h, fun _ _ _ _ _ _ r h => by simp [samphirelaw17_SlotsPlaces.j1] at h, fun _ _ _ _ _ r h => by simp [samphirelaw17_SlotsPlaces.l0] at h⟩
  | k + 1 => by
    obtain ⟨ih0, ih1, ih2⟩ := samphirelaw17_SlotsPlaces.mono_l k
    refine ⟨?_, ?_, ?_⟩
    · intro y0 y1 y2 y3
      unfold samphirelaw17_SlotsPlaces.j0
      repeat' first
      | (with_reducible exact ih0 _ _ _ _)
      | (with_reducible exact ih1 _ _ _ _ _ _)
      | (with_reducible exact ih2 _ _ _ _ _)
      | (with_reducible exact samphirelaw17_awake.mono _)
      | (with_reducible exact slots_Add.mono _ _ _ _ _ _ _ _)
      | (with_reducible exact LeO.refl _)
      | (with_reducible exact LeO.none _)
      | (with_reducible refine LeO.ite ?_ ?_)
      | (with_reducible refine LeO.bind ?_ (fun _ => ?_))
      | exact ih0 _ _ _ _
      | exact ih1 _ _ _ _ _ _
      | exact ih2 _ _ _ _ _
      | exact samphirelaw17_awake.mono _
      | exact slots_Add.mono _ _ _ _ _ _ _ _
      | exact LeO.none _
      | refine LeO.ite ?_ ?_
      | refine LeO.bind ?_ (fun _ => ?_)
    · intro y0 y1 y2 y3 y4 y5
      unfold samphirelaw17_SlotsPlaces.j1
      repeat' first
      | (with_reducible exact ih0 _ _ _ _)
      | (with_reducible exact ih1 _ _ _ _ _ _)
      | (with_reducible exact ih2 _ _ _ _ _)
      | (with_reducible exact samphirelaw17_awake.mono _)
      | (with_reducible exact slots_Add.mono _ _ _ _ _ _ _ _)
      | (with_reducible exact LeO.refl _)
      | (with_reducible exact LeO.none _)
      | (with_reducible refine LeO.ite ?_ ?_)
      | (with_reducible refine LeO.bind ?_ (fun _ => ?_))
      | exact ih0 _ _ _ _
      | exact ih1 _ _ _ _ _ _
      | exact ih2 _ _ _ _ _
      | exact samphirelaw17_awake.mono _
      | exact slots_Add.mono _ _ _ _ _ _ _ _
      | exact LeO.none _
      | refine LeO.ite ?_ ?_
      | refine LeO.bind ?_ (fun _ => ?_)
    · intro y0 y1 y2 y3 y4
      unfold samphirelaw17_SlotsPlaces.l0
      repeat' first
      | (with_reducible exact ih0 _ _ _ _)
      | (with_reducible exact ih1 _ _ _ _ _ _)
      | (with_reducible exact ih2 _ _ _ _ _)
      | (with_reducible exact samphirelaw17_awake.mono _)
      | (with_reducible exact slots_Add.mono _ _ _ _ _ _ _ _)
      | (with_reducible exact LeO.refl _)
      | (with_reducible exact LeO.none _)
      | (with_reducible refine LeO.ite ?_ ?_)
      | (with_reducible refine LeO.bind ?_ (fun _ => ?_))
      | exact ih0 _ _ _ _
      | exact ih1 _ _ _ _ _ _
      | exact ih2 _ _ _ _ _
      | exact samphirelaw17_awake.mono _
      | exact slots_Add.mono _ _ _ _ _ _ _ _
      | exact LeO.none _
      | refine LeO.ite ?_ ?_
      | refine LeO.bind ?_ (fun _ => ?_)
theorem samphirelaw17_SlotsPlaces.mono : ∀ a0 a1 a2 k, LeO (samphirelaw17_SlotsPlaces.f k a0 a1 a2) (samphirelaw17_SlotsPlaces.f (k + 1) a0 a1 a2) := by
  intro a0 a1 a2 k
  obtain ⟨ih0, ih1, ih2⟩ := samphirelaw17_SlotsPlaces.mono_l k
  unfold samphirelaw17_SlotsPlaces.f
  repeat' first
      | (with_reducible exact ih0 _ _ _ _)
      | (with_reducible exact ih1 _ _ _ _ _ _)
      | (with_reducible exact ih2 _ _ _ _ _)
      | (with_reducible exact samphirelaw17_awake.mono _)
      | (with_reducible exact slots_Add.mono _ _ _ _ _ _ _ _)
      | (with_reducible exact LeO.refl _)
      | (with_reducible exact LeO.none _)
      | (with_reducible refine LeO.ite ?_ ?_)
      | (with_reducible refine LeO.bind ?_ (fun _ => ?_))
      | exact ih0 _ _ _ _
      | exact ih1 _ _ _ _ _ _
      | exact ih2 _ _ _ _ _
      | exact samphirelaw17_awake.mono _
      | exact slots_Add.mono _ _ _ _ _ _ _ _
      | exact LeO.none _
      | refine LeO.ite ?_ ?_
      | refine LeO.bind ?_ (fun _ => ?_)
set_option maxHeartbeats 8000000 in
set_option maxRecDepth 100000 in
theorem samphirelaw17_SlotsPlaces.calls (k : Nat) (a0 : Int) (a1 : Int) (A2 : Option Addr) (c2 : Nat) (l2 : List Int) (r : Bool) (w : World) (hr2 : Kd.C (Kd.int .u64) w A2 l2.length l2) (hc2 : l2.length ≤ c2) (h : samphirelaw17_SlotsPlaces.f k a0 a1 l2 = some r) :
    Calls Try.prog 4 #[.int .u8 a0, .int .u8 a1, .slice A2 l2.length c2] w fun e w' => e = .returned (.bool r) ∧ Below w.heap.size w w' := by
  have hu27 := Try.underlying27
  have hu33 := Try.underlying33
  have HR2 := Aside0.mk hr2
  have HC2 := Aside0.mk hc2
  clear hr2 hc2
  have HB := Aside0.mk (Below.refl w.heap.size w)
  have H : (if (l2.length : Int) < (wrap64 (1 + (wrap64 (Int.tmod a0 8)))) then (samphirelaw17_SlotsPlaces.j0 k l2 (wrap64 (1 + (wrap64 (Int.tmod a0 8)))) (IntKind.u64.wrap (1 + (IntKind.u64.wrap (Int.tmod a1 63)))) true) else (samphirelaw17_SlotsPlaces.j0 k l2 (wrap64 (1 + (wrap64 (Int.tmod a0 8)))) (IntKind.u64.wrap (1 + (IntKind.u64.wrap (Int.tmod a1 63)))) (decide ((l2.length : Int) > 60)))) = some r := h
  clear h
  have HC4 := Aside0.mk H
  clear H
  go_enter Try.func4, Try.ntmps4
  go_upto_region 2 with (fail)
  go_cut [34] (fun v34 wc => ∃ (kq : Nat) (x34_3 : Bool), v34 = .bool x34_3 ∧ Aside0 (samphirelaw17_SlotsPlaces.j0 kq l2 (wrap64 (1 + (wrap64 (Int.tmod a0 8)))) (IntKind.u64.wrap (1 + (IntKind.u64.wrap (Int.tmod a1 63)))) x34_3 = some r) ∧ Aside0 (kq ≤ k) ∧ Aside0 (Below w.heap.size w wc))
  case first =>
    have H := HC4.out
    clear HC4
    by_cases c5 : (l2.length : Int) < (wrap64 (1 + (wrap64 (Int.tmod a0 8))))
    · rw [if_pos c5] at H
      have c5b0 : decide ((l2.length : Int) < (wrap64 (1 + (wrap64 (Int.tmod a0 8))))) = true := decide_eq_true c5
      clear c5
      (first | rw [c5b0] | (simp only [i64_w, i32_w]; rw [c5b0]) | skip)
      have H' := Aside0.mk H
      clear H
      go_wp2
      go_meet
      case rel => exact ⟨_, (true), (by first | rfl | (simp; done) | (simp [*]; done)), H', ⟨by first | omega | exact Nat.le_refl _⟩, ⟨by repeat (first | (with_reducible first | exact HB.out | apply below_alloc | apply pw_below_drewN | apply below_drew1) | exact HB.out)⟩⟩
    · rw [if_neg c5] at H
      have c5b0 : decide ((l2.length : Int) < (wrap64 (1 + (wrap64 (Int.tmod a0 8))))) = false := decide_eq_false c5
      clear c5
      (first | rw [c5b0] | (simp only [i64_w, i32_w]; rw [c5b0]) | skip)
      have H' := Aside0.mk H
      clear H
      go_wp2
      go_meet
      case rel => exact ⟨_, (decide ((l2.length : Int) > 60)), (by first | rfl | (simp; done) | (simp [*]; done)), H', ⟨by first | omega | exact Nat.le_refl _⟩, ⟨by repeat (first | (with_reducible first | exact HB.out | apply below_alloc | apply pw_below_drewN | apply below_drew1) | exact HB.out)⟩⟩
  case rest =>
    clear HC4
    try clear c2
    try clear p2
    try clear c4
    try clear c5
    try clear c5b0
    obtain ⟨kq, x34_3, rfl, HA, HJ3, HB⟩ := hcut
    cases kq with
    | zero => exact absurd HA.out (by simp [samphirelaw17_SlotsPlaces.j0])
    | succ kj3 =>
      have H := HA.out
      clear HA
      simp only [samphirelaw17_SlotsPlaces.j0] at H
      by_cases c6 : x34_3 = true
      · subst c6
        have H1 : ((samphirelaw17_awake.f kj3).bind fun t216 => (some t216)) = some r := by rw [if_pos rfl] at H; exact H
        clear H
        have H := H1
        clear H1
        replace H := Option.bind_eq_some_iff.mp H
        obtain ⟨t216, A70, H⟩ := H
        replace H : (some t216) = some r := H
        have A7 := Aside0.mk A70
        clear A70
        obtain rfl := Option.some.inj H
        go_wp2_with (first | ((with_reducible refine gate_callee (f := 9) rfl ?_); refine goesL_ (some 35) rfl rfl Try.func9 (by kernel_rfl) rfl #[] rfl (by (try simp only [List.map_toArray, List.map_cons, List.map_nil]); first | done | rfl | (simp only [List.length_drop, List.length_take]; rfl)) ?_; (with_reducible refine (samphirelaw17_awake.calls kj3  t216 _ A7.out).mono ?_); rintro e w8 ⟨rfl, hb⟩; refine ⟨_, rfl, ?_⟩; have n0_ := Aside0.mk (below_step (by repeat (first | (with_reducible first | exact HB.out | apply below_alloc | apply pw_below_drewN | apply below_drew1) | exact HB.out)) hb); clear HB; have HB := n0_; clear n0_; (try clear hb); (try clear hb2); (try clear hk); (try clear hi)))
        go_ret
        exact ⟨by first | rfl | (simp [errW_none, errW_some] <;> rfl) | (simp [*, errW_none, errW_some] <;> rfl), by repeat (first | (with_reducible first | exact HB.out | apply below_alloc | apply pw_below_drewN | apply below_drew1) | exact HB.out)⟩
      · replace c6 := Bool.eq_false_iff.mpr c6
        subst c6
        have H1 : ((slots_New.f (wrap64 (1 + (wrap64 (Int.tmod a0 8))))).bind fun bt217 => ((slots_Add.f kj3 bt217.1 bt217.2.1 bt217.2.2.1 (⟨#[111, 108, 100]⟩ : ByteArray) (IntKind.u64.wrap (64 - (IntKind.u64.wrap (1 + (IntKind.u64.wrap (Int.tmod a1 63)))))) ([] : List Int) 0).bind fun bt224 => ((slots_Add.f kj3 bt224.1 bt224.2.1 bt224.2.2.1 (⟨#[110, 101, 119]⟩ : ByteArray) (IntKind.u64.wrap (1 + (IntKind.u64.wrap (Int.tmod a1 63)))) l2 0).bind fun bt235 => (if bt224.2.2.2.2.2 = 0 then (if bt235.2.2.2.2.2 = 0 then (if (bt235.2.2.1.length : Int) = (wrap64 (1 + (wrap64 (Int.tmod a0 8)))) then (samphirelaw17_SlotsPlaces.j1 kj3 l2 (IntKind.u64.wrap (1 + (IntKind.u64.wrap (Int.tmod a1 63)))) (bt235.2.2.2.2.1 != (wrap64 (1 + (wrap64 (Int.tmod a0 8))))) bt235.1 bt235.2.1 bt235.2.2.1) else (samphirelaw17_SlotsPlaces.j1 kj3 l2 (IntKind.u64.wrap (1 + (IntKind.u64.wrap (Int.tmod a1 63)))) true bt235.1 bt235.2.1 bt235.2.2.1)) else (samphirelaw17_SlotsPlaces.j1 kj3 l2 (IntKind.u64.wrap (1 + (IntKind.u64.wrap (Int.tmod a1 63)))) true bt235.1 bt235.2.1 bt235.2.2.1)) else (samphirelaw17_SlotsPlaces.j1 kj3 l2 (IntKind.u64.wrap (1 + (IntKind.u64.wrap (Int.tmod a1 63)))) true bt235.1 bt235.2.1 bt235.2.2.1))))) = some r := by rw [if_neg (show ¬ (false = true) by decide)] at H; exact H
        clear H
        have H := H1
        clear H1
        replace H := Option.bind_eq_some_iff.mp H
        obtain ⟨⟨t217, t218, t219, t222⟩, A90, H⟩ := H
        replace H : ((slots_Add.f kj3 t217 t218 t219 (⟨#[111, 108, 100]⟩ : ByteArray) (IntKind.u64.wrap (64 - (IntKind.u64.wrap (1 + (IntKind.u64.wrap (Int.tmod a1 63)))))) ([] : List Int) 0).bind fun bt224 => ((slots_Add.f kj3 bt224.1 bt224.2.1 bt224.2.2.1 (⟨#[110, 101, 119]⟩ : ByteArray) (IntKind.u64.wrap (1 + (IntKind.u64.wrap (Int.tmod a1 63)))) l2 0).bind fun bt235 => (if bt224.2.2.2.2.2 = 0 then (if bt235.2.2.2.2.2 = 0 then (if (bt235.2.2.1.length : Int) = (wrap64 (1 + (wrap64 (Int.tmod a0 8)))) then (samphirelaw17_SlotsPlaces.j1 kj3 l2 (IntKind.u64.wrap (1 + (IntKind.u64.wrap (Int.tmod a1 63)))) (bt235.2.2.2.2.1 != (wrap64 (1 + (wrap64 (Int.tmod a0 8))))) bt235.1 bt235.2.1 bt235.2.2.1) else (samphirelaw17_SlotsPlaces.j1 kj3 l2 (IntKind.u64.wrap (1 + (IntKind.u64.wrap (Int.tmod a1 63)))) true bt235.1 bt235.2.1 bt235.2.2.1)) else (samphirelaw17_SlotsPlaces.j1 kj3 l2 (IntKind.u64.wrap (1 + (IntKind.u64.wrap (Int.tmod a1 63)))) true bt235.1 bt235.2.1 bt235.2.2.1)) else (samphirelaw17_SlotsPlaces.j1 kj3 l2 (IntKind.u64.wrap (1 + (IntKind.u64.wrap (Int.tmod a1 63)))) true bt235.1 bt235.2.1 bt235.2.2.1)))) = some r := H
        have A9 := Aside0.mk A90
        clear A90
        replace H := Option.bind_eq_some_iff.mp H
        obtain ⟨⟨t224, t225, t226, t229, t232, t233⟩, A100, H⟩ := H
        replace H : ((slots_Add.f kj3 t224 t225 t226 (⟨#[110, 101, 119]⟩ : ByteArray) (IntKind.u64.wrap (1 + (IntKind.u64.wrap (Int.tmod a1 63)))) l2 0).bind fun bt235 => (if t233 = 0 then (if bt235.2.2.2.2.2 = 0 then (if (bt235.2.2.1.length : Int) = (wrap64 (1 + (wrap64 (Int.tmod a0 8)))) then (samphirelaw17_SlotsPlaces.j1 kj3 l2 (IntKind.u64.wrap (1 + (IntKind.u64.wrap (Int.tmod a1 63)))) (bt235.2.2.2.2.1 != (wrap64 (1 + (wrap64 (Int.tmod a0 8))))) bt235.1 bt235.2.1 bt235.2.2.1) else (samphirelaw17_SlotsPlaces.j1 kj3 l2 (IntKind.u64.wrap (1 + (IntKind.u64.wrap (Int.tmod a1 63)))) true bt235.1 bt235.2.1 bt235.2.2.1)) else (samphirelaw17_SlotsPlaces.j1 kj3 l2 (IntKind.u64.wrap (1 + (IntKind.u64.wrap (Int.tmod a1 63)))) true bt235.1 bt235.2.1 bt235.2.2.1)) else (samphirelaw17_SlotsPlaces.j1 kj3 l2 (IntKind.u64.wrap (1 + (IntKind.u64.wrap (Int.tmod a1 63)))) true bt235.1 bt235.2.1 bt235.2.2.1))) = some r := H
        have A10 := Aside0.mk A100
        clear A100
        replace H := Option.bind_eq_some_iff.mp H
        obtain ⟨⟨t235, t236, t237, t240, t243, t244⟩, A110, H⟩ := H
        replace H : (if t233 = 0 then (if t244 = 0 then (if (t237.length : Int) = (wrap64 (1 + (wrap64 (Int.tmod a0 8)))) then (samphirelaw17_SlotsPlaces.j1 kj3 l2 (IntKind.u64.wrap (1 + (IntKind.u64.wrap (Int.tmod a1 63)))) (t243 != (wrap64 (1 + (wrap64 (Int.tmod a0 8))))) t235 t236 t237) else (samphirelaw17_SlotsPlaces.j1 kj3 l2 (IntKind.u64.wrap (1 + (IntKind.u64.wrap (Int.tmod a1 63)))) true t235 t236 t237)) else (samphirelaw17_SlotsPlaces.j1 kj3 l2 (IntKind.u64.wrap (1 + (IntKind.u64.wrap (Int.tmod a1 63)))) true t235 t236 t237)) else (samphirelaw17_SlotsPlaces.j1 kj3 l2 (IntKind.u64.wrap (1 + (IntKind.u64.wrap (Int.tmod a1 63)))) true t235 t236 t237)) = some r := H
        have A11 := Aside0.mk A110
        clear A110
        have HC12 := Aside0.mk H
        clear H
        go_upto_region 7 with (first | ((with_reducible refine gate_callee (f := 8) rfl ?_); refine goesL_ (some 38) rfl rfl Try.func8 (by kernel_rfl) rfl #[.int .i64 (wrap64 (1 + (wrap64 (Int.tmod a0 8))))] rfl (by (try simp only [List.map_toArray, List.map_cons, List.map_nil]); first | done | rfl | (simp only [List.length_drop, List.length_take]; rfl)) ?_; (with_reducible refine (slots_New.calls (wrap64 (1 + (wrap64 (Int.tmod a0 8)))) t217 t218 t219 t222 _ A9.out).mono ?_); rintro e w13 ⟨v220, rfl, ho0, hb⟩; refine ⟨_, rfl, ?_⟩; have n0_ := Aside0.mk (Kd.R_lower ho0 (below_size (by repeat (first | (with_reducible first | exact HB.out | apply below_alloc | apply pw_below_drewN | apply below_drew1) | exact HB.out)))); have n1_ := Aside0.mk (below_step (by repeat (first | (with_reducible first | exact HB.out | apply below_alloc | apply pw_below_drewN | apply below_drew1) | exact HB.out)) hb); clear HB; have HO221 := n0_; have HB := n1_; clear n0_ n1_; (try clear hb); (try clear hb2); (try clear hk); (try clear hi); (try clear ho0)) | ((with_reducible refine gate_dst (N := 9) rfl ?_); (try (refine gate_guard (by rfl) ?_; dsimp only)); refine box_event ?hg (N := 9) ?hd (cs := #[.int .i64 0, .int .u64 0, .slice none 0 0]) (t := 27) ?hr ?_; (case hd => rfl); (case hg => rfl); (case hr => first | (go_simp; done) | (go_simp; rfl)); intro gb223 hg w14 hbox hb; have n0_ := Aside0.mk (Kd.R_below (by (with_reducible repeat (first | apply Kd.R_alloc | apply Kd.R_drewN | apply Kd.R_drew)); exact HO221.out) hb); have n1_ := Aside0.mk (below_step (by repeat (first | (with_reducible first | exact HB.out | apply below_alloc | apply pw_below_drewN | apply below_drew1) | exact HB.out)) hb); have n2_ := Aside0.mk (hbox); have n3_ := Aside0.mk ((by rw [hg]; exact (below_size (by repeat (first | (with_reducible first | exact HB.out | apply below_alloc | apply pw_below_drewN | apply below_drew1) | exact HB.out))) : w.heap.size ≤ gb223)); have n4_ := Aside0.mk ((by rw [hg]; exact (below_size (by repeat (first | (with_reducible first | exact HB.out | apply below_alloc | apply pw_below_drewN | apply below_drew1) | exact HB.out))) : w.heap.size ≤ gb223)); clear HO221; clear HB; have HO221 := n0_; have HB := n1_; have BK223 := n2_; have GW223 := n3_; have GE223 := n4_; clear n0_ n1_ n2_ n3_ n4_; clear hb hbox hg; have hcz15_0 : w14.cell? ⟨gb223, 0, none⟩ = some (.int .i64 0) := (blk_cell BK223.out 0).trans rfl; have hcz15_1 : w14.cell? ⟨gb223, 1, none⟩ = some (.int .u64 0) := (blk_cell BK223.out 1).trans rfl; have hcz15_2 : w14.cell? ⟨gb223, 2, none⟩ = some (.slice none 0 0) := (blk_cell BK223.out 2).trans rfl; have hfz15_0 := blk_frozen BK223.out 0; have hfz15_1 := blk_frozen BK223.out 1; have hfz15_2 := blk_frozen BK223.out 2; obtain ⟨Ao16, co16, eo16⟩ := Kd.R_slice HO221.out; subst eo16) | ((with_reducible refine gate_store (t := 27) (p := 9) rfl ?_); refine store_event (t := 27) (p := 9) (v := ?vo_w17) (w1 := (((w14.setCell ⟨gb223, 0, none⟩ (.int .i64 t217)).setCell ⟨gb223, 1, none⟩ (.int .u64 t218)).setCell ⟨gb223, 2, none⟩ (.slice Ao16 t219.length co16))) ?hg ?ho ?hn ?hr ?_; (case ho => rfl); (case hg => rfl); (case hn => rfl); (case hr => first | (go_simp; done) | (go_simp; rfl)); intro w17 hw; have n0_ : Aside0 (Kd.R Kd.string 9 w17 w.heap.size (fun _ => True) (.slice Ao16 t219.length co16) t219) := ⟨(by rw [hw]; exact (by (with_reducible repeat (first | apply Kd.R_alloc | apply Kd.R_drewN | apply Kd.R_drew)); exact Kd.R_mono (Kd.R_far (p := ⟨gb223, 2, none⟩) (Kd.R_far (p := ⟨gb223, 1, none⟩) (Kd.R_far (p := ⟨gb223, 0, none⟩) (Kd.R_types HO221.out BK223.out (by decide)) (fun _ hk => hk.2) (.int .i64 t217)) (fun _ hk => hk.2) (.int .u64 t218)) (fun _ hk => hk.2) (.slice Ao16 t219.length co16)) (fun _ hk => trivial)))⟩; have n1_ : Aside0 (w17.heap[gb223]? = some (.cells #[.int .i64 t217, .int .u64 t218, .slice Ao16 t219.length co16] 27 (0, 0))) := ⟨(by rw [hw]; exact (by (with_reducible repeat (first | refine blk_drewN ?_ _ | refine blk_drew ?_ | refine blk_alloc ?_ _)); refine blk_put (cs := #[.int .i64 t217, .int .u64 t218, .slice none 0 0]) ?_ 2 _ rfl; (with_reducible repeat (first | refine blk_drewN ?_ _ | refine blk_drew ?_ | refine blk_alloc ?_ _)); refine blk_put (cs := #[.int .i64 t217, .int .u64 0, .slice none 0 0]) ?_ 1 _ rfl; (with_reducible repeat (first | refine blk_drewN ?_ _ | refine blk_drew ?_ | refine blk_alloc ?_ _)); refine blk_put (cs := #[.int .i64 0, .int .u64 0, .slice none 0 0]) ?_ 0 _ rfl; (with_reducible repeat (first | refine blk_drewN ?_ _ | refine blk_drew ?_ | refine blk_alloc ?_ _)); exact BK223.out))⟩; have n2_ : Aside0 (Below w.heap.size w w17) := ⟨(by rw [hw]; exact (by repeat (first | (with_reducible first | exact HB.out | apply below_alloc | apply pw_below_drewN | apply below_drew1 | refine below_set ?_ GE223.out) | exact HB.out)))⟩; clear hw; clear HO221; clear BK223; clear HB; have HO221 := n0_; have BK223 := n1_; have HB := n2_; clear n0_ n1_ n2_; have hcz18_0 : w17.cell? ⟨gb223, 0, none⟩ = some (.int .i64 t217) := (blk_cell BK223.out 0).trans rfl; have hcz18_1 : w17.cell? ⟨gb223, 1, none⟩ = some (.int .u64 t218) := (blk_cell BK223.out 1).trans rfl; have hcz18_2 : w17.cell? ⟨gb223, 2, none⟩ = some (.slice Ao16 t219.length co16) := (blk_cell BK223.out 2).trans rfl; have hfz18_0 := blk_frozen BK223.out 0; have hfz18_1 := blk_frozen BK223.out 1; have hfz18_2 := blk_frozen BK223.out 2) | ((with_reducible refine gate_callee (f := 10) rfl ?_); refine goesL_ (some 46) rfl rfl Try.func10 (by kernel_rfl) rfl #[.agg #[.int .i64 t217, .int .u64 t218, .slice Ao16 t219.length co16], .string (⟨#[111, 108, 100]⟩ : ByteArray), .int .u64 (IntKind.u64.wrap (64 - (IntKind.u64.wrap (1 + (IntKind.u64.wrap (Int.tmod a1 63)))))), .agg #[.slice none 0 0, .int .i64 0]] rfl (by (try simp only [List.map_toArray, List.map_cons, List.map_nil]); first | done | rfl | (simp only [List.length_drop, List.length_take]; rfl)) ?_; (refine (slots_Add.calls kj3 t217 t218 (fun k_ => some k_ = (.slice Ao16 t219.length co16 : Value).ownBlock) _ _ t219 (⟨#[111, 108, 100]⟩ : ByteArray) (IntKind.u64.wrap (64 - (IntKind.u64.wrap (1 + (IntKind.u64.wrap (Int.tmod a1 63)))))) (fun k_ => False) _ _ ([] : List Int) 0 t224 t225 t226 t229 t232 t233 _ ?side1 ?side2 A10.out).mono ?_); (case side1 => exact Kd.R_V (Kd.R_tight rfl (Kd.R_types (HO221.out) BK223.out (by decide)))); (case side2 => exact Kd.V_nil _ _ _ _ _); rintro e w19 ⟨v227, v230, rfl, ho0, ho1, hb⟩; refine ⟨_, rfl, ?_⟩; have n0_ := Aside0.mk (Kd.R_below (by (with_reducible repeat (first | apply Kd.R_alloc | apply Kd.R_drewN | apply Kd.R_drew)); exact HO221.out) hb); have n1_ := Aside0.mk (Kd.V_lower (Kd.V_mono (ok' := fun k_ => k_ ≠ gb223) ho0 (fun k_ hk_ => Or.elim hk_ (fun hs_ => Or.elim hs_ (fun hs_ => ((Kd.R_types (HO221.out) BK223.out (by decide)).1 k_ hs_.symm).2) (fun hs_ => (hs_).elim)) (fun hn_ => (Kd.freshB (g := gb223) (o := .cells #[.int .i64 t217, .int .u64 t218, .slice Ao16 t219.length co16] 27 (0, 0)) (by (with_reducible repeat (first | refine blk_drewN ?_ _ | refine blk_drew ?_ | refine blk_alloc ?_ _)); exact BK223.out) k_ hn_)))) (below_size (by repeat (first | (with_reducible first | exact HB.out | apply below_alloc | apply pw_below_drewN | apply below_drew1 | refine below_set ?_ GE223.out) | exact HB.out)))); have n2_ := Aside0.mk (Kd.V_lower (Kd.V_mono (ok' := fun k_ => k_ ≠ gb223) ho1 (fun k_ hk_ => Or.elim hk_ (fun hs_ => Or.elim hs_ (fun hs_ => ((Kd.R_types (HO221.out) BK223.out (by decide)).1 k_ hs_.symm).2) (fun hs_ => (hs_).elim)) (fun hn_ => (Kd.freshB (g := gb223) (o := .cells #[.int .i64 t217, .int .u64 t218, .slice Ao16 t219.length co16] 27 (0, 0)) (by (with_reducible repeat (first | refine blk_drewN ?_ _ | refine blk_drew ?_ | refine blk_alloc ?_ _)); exact BK223.out) k_ hn_)))) (below_size (by repeat (first | (with_reducible first | exact HB.out | apply below_alloc | apply pw_below_drewN | apply below_drew1 | refine below_set ?_ GE223.out) | exact HB.out)))); have n3_ := Aside0.mk (blk_below (g := gb223) (o := .cells #[.int .i64 t217, .int .u64 t218, .slice Ao16 t219.length co16] 27 (0, 0)) (by (with_reducible repeat (first | refine blk_drewN ?_ _ | refine blk_drew ?_ | refine blk_alloc ?_ _)); exact BK223.out) hb); have n4_ := Aside0.mk (below_step (by repeat (first | (with_reducible first | exact HB.out | apply below_alloc | apply pw_below_drewN | apply below_drew1 | refine below_set ?_ GE223.out) | exact HB.out)) hb); clear HO221; clear BK223; clear HB; have HO221 := n0_; have HO228 := n1_; have HO231 := n2_; have BK223 := n3_; have HB := n4_; clear n0_ n1_ n2_ n3_ n4_; (try clear hb); (try clear hb2); (try clear hk); (try clear hi); (try clear ho0); (try clear ho1)) | ((with_reducible refine gate_dst (N := 11) rfl ?_); (try (refine gate_guard (by rfl) ?_; dsimp only)); refine box_event ?hg (N := 11) ?hd (cs := #[.slice none 0 0, .int .i64 0]) (t := 33) ?hr ?_; (case hd => rfl); (case hg => rfl); (case hr => first | (go_simp; done) | (go_simp; rfl)); intro gb234 hg w20 hbox hb; have n0_ := Aside0.mk (Kd.R_below (by (with_reducible repeat (first | apply Kd.R_alloc | apply Kd.R_drewN | apply Kd.R_drew)); exact HO221.out) hb); have n1_ := Aside0.mk (Kd.V_below (Kd.V_elderB (by (with_reducible repeat (first | apply Kd.V_alloc | apply Kd.V_drewN | apply Kd.V_drew)); exact HO228.out) gb234 (Nat.le_of_eq hg.symm)) hb); have n2_ := Aside0.mk (Kd.V_below (Kd.V_elderB (by (with_reducible repeat (first | apply Kd.V_alloc | apply Kd.V_drewN | apply Kd.V_drew)); exact HO231.out) gb234 (Nat.le_of_eq hg.symm)) hb); have n3_ := Aside0.mk (blk_below (g := gb223) (o := .cells #[.int .i64 t217, .int .u64 t218, .slice Ao16 t219.length co16] 27 (0, 0)) (by (with_reducible repeat (first | refine blk_drewN ?_ _ | refine blk_drew ?_ | refine blk_alloc ?_ _)); exact BK223.out) hb); have n4_ := Aside0.mk (below_step (by repeat (first | (with_reducible first | exact HB.out | apply below_alloc | apply pw_below_drewN | apply below_drew1 | refine below_set ?_ GE223.out) | exact HB.out)) hb); have n5_ := Aside0.mk (hbox); have n6_ := Aside0.mk ((by rw [hg]; exact (below_size (by repeat (first | (with_reducible first | exact HB.out | apply below_alloc | apply pw_below_drewN | apply below_drew1 | refine below_set ?_ GE223.out) | exact HB.out))) : w.heap.size ≤ gb234)); have n7_ := Aside0.mk ((by rw [hg]; exact (below_size (by repeat (first | (with_reducible first | exact HB.out | apply below_alloc | apply pw_below_drewN | apply below_drew1 | refine below_set ?_ GE223.out) | exact HB.out))) : w.heap.size ≤ gb234)); have n8_ := Aside0.mk ((by rw [hg]; exact Nat.ne_of_lt (blk_lt (g := gb223) (o := .cells #[.int .i64 t217, .int .u64 t218, .slice Ao16 t219.length co16] 27 (0, 0)) (by (with_reducible repeat (first | refine blk_drewN ?_ _ | refine blk_drew ?_ | refine blk_alloc ?_ _)); exact BK223.out)) : gb223 ≠ gb234)); have n9_ := Aside0.mk ((by rw [hg]; exact Nat.ne_of_gt (blk_lt (g := gb223) (o := .cells #[.int .i64 t217, .int .u64 t218, .slice Ao16 t219.length co16] 27 (0, 0)) (by (with_reducible repeat (first | refine blk_drewN ?_ _ | refine blk_drew ?_ | refine blk_alloc ?_ _)); exact BK223.out)) : gb234 ≠ gb223)); clear HO221; clear HO228; clear HO231; clear BK223; clear HB; have HO221 := n0_; have HO228 := n1_; have HO231 := n2_; have BK223 := n3_; have HB := n4_; have BK234 := n5_; have GW234 := n6_; have GE234 := n7_; have NB223_234 := n8_; have NB234_223 := n9_; clear n0_ n1_ n2_ n3_ n4_ n5_ n6_ n7_ n8_ n9_; clear hb hbox hg; have hnb21 := NB223_234.out; have hnc21 := NB234_223.out; have hcz22_0 : w20.cell? ⟨gb223, 0, none⟩ = some (.int .i64 t217) := (blk_cell BK223.out 0).trans rfl; have hcz22_1 : w20.cell? ⟨gb223, 1, none⟩ = some (.int .u64 t218) := (blk_cell BK223.out 1).trans rfl; have hcz22_2 : w20.cell? ⟨gb223, 2, none⟩ = some (.slice Ao16 t219.length co16) := (blk_cell BK223.out 2).trans rfl; have hfz22_0 := blk_frozen BK223.out 0; have hfz22_1 := blk_frozen BK223.out 1; have hfz22_2 := blk_frozen BK223.out 2; obtain ⟨Ao23, co23, eo23⟩ := Kd.V_slice HO228.out; subst eo23) | ((with_reducible refine gate_store (t := 27) (p := 9) rfl ?_); refine store_event (t := 27) (p := 9) (v := ?vo_w24) (w1 := (((w20.setCell ⟨gb223, 0, none⟩ (.int .i64 t224)).setCell ⟨gb223, 1, none⟩ (.int .u64 t225)).setCell ⟨gb223, 2, none⟩ (.slice Ao23 t226.length co23))) ?hg ?ho ?hn ?hr ?_; (case ho => rfl); (case hg => rfl); (case hn => rfl); (case hr => first | (go_simp; done) | (go_simp; rfl)); intro w24 hw; have n0_ : Aside0 (Kd.R Kd.string 9 w24 w.heap.size (fun _ => True) (.slice Ao16 t219.length co16) t219) := ⟨(by rw [hw]; exact (by (with_reducible repeat (first | apply Kd.R_alloc | apply Kd.R_drewN | apply Kd.R_drew)); exact Kd.R_mono (Kd.R_far (p := ⟨gb223, 2, none⟩) (Kd.R_far (p := ⟨gb223, 1, none⟩) (Kd.R_far (p := ⟨gb223, 0, none⟩) (Kd.R_types HO221.out BK223.out (by decide)) (fun _ hk => hk.2) (.int .i64 t224)) (fun _ hk => hk.2) (.int .u64 t225)) (fun _ hk => hk.2) (.slice Ao23 t226.length co23)) (fun _ hk => trivial)))⟩; have n1_ : Aside0 (Kd.V Kd.string 9 w24 w.heap.size (fun k_ => k_ ≠ gb223 ∧ k_ ≠ gb234) (.slice Ao23 t226.length co23) t226) := ⟨(by rw [hw]; exact (by (with_reducible repeat (first | apply Kd.V_alloc | apply Kd.V_drewN | apply Kd.V_drew)); exact Kd.V_mono (Kd.V_far (p := ⟨gb223, 2, none⟩) (Kd.V_far (p := ⟨gb223, 1, none⟩) (Kd.V_far (p := ⟨gb223, 0, none⟩) (Kd.V_mono HO228.out (fun k_ hk => (⟨hk, hk.1⟩ : _ ∧ k_ ≠ gb223))) (fun _ hk => hk.2) (.int .i64 t224)) (fun _ hk => hk.2) (.int .u64 t225)) (fun _ hk => hk.2) (.slice Ao23 t226.length co23)) (fun _ hk => ⟨hk.1.1, hk.1.2⟩)))⟩; have n2_ : Aside0 (Kd.V (Kd.int .u64) 24 w24 w.heap.size (fun k_ => k_ ≠ gb223 ∧ k_ ≠ gb234) v230 t229) := ⟨(by rw [hw]; exact (by (with_reducible repeat (first | apply Kd.V_alloc | apply Kd.V_drewN | apply Kd.V_drew)); exact Kd.V_mono (Kd.V_far (p := ⟨gb223, 2, none⟩) (Kd.V_far (p := ⟨gb223, 1, none⟩) (Kd.V_far (p := ⟨gb223, 0, none⟩) (Kd.V_mono HO231.out (fun k_ hk => (⟨hk, hk.1⟩ : _ ∧ k_ ≠ gb223))) (fun _ hk => hk.2) (.int .i64 t224)) (fun _ hk => hk.2) (.int .u64 t225)) (fun _ hk => hk.2) (.slice Ao23 t226.length co23)) (fun _ hk => ⟨hk.1.1, hk.1.2⟩)))⟩; have n3_ : Aside0 (w24.heap[gb223]? = some (.cells #[.int .i64 t224, .int .u64 t225, .slice Ao23 t226.length co23] 27 (0, 0))) := ⟨(by rw [hw]; exact (by (with_reducible repeat (first | refine blk_drewN ?_ _ | refine blk_drew ?_ | refine blk_alloc ?_ _)); refine blk_put (cs := #[.int .i64 t224, .int .u64 t225, .slice Ao16 t219.length co16]) ?_ 2 _ rfl; (with_reducible repeat (first | refine blk_drewN ?_ _ | refine blk_drew ?_ | refine blk_alloc ?_ _)); refine blk_put (cs := #[.int .i64 t224, .int .u64 t218, .slice Ao16 t219.length co16]) ?_ 1 _ rfl; (with_reducible repeat (first | refine blk_drewN ?_ _ | refine blk_drew ?_ | refine blk_alloc ?_ _)); refine blk_put (cs := #[.int .i64 t217, .int .u64 t218, .slice Ao16 t219.length co16]) ?_ 0 _ rfl; (with_reducible repeat (first | refine blk_drewN ?_ _ | refine blk_drew ?_ | refine blk_alloc ?_ _)); exact BK223.out))⟩; have n4_ : Aside0 (w24.heap[gb234]? = some (.cells #[.slice none 0 0, .int .i64 0] 33 (0, 0))) := ⟨(by rw [hw]; exact (by (with_reducible repeat (first | refine blk_drewN ?_ _ | refine blk_drew ?_ | refine blk_alloc ?_ _)); refine blk_far ?_ NB234_223.out _; (with_reducible repeat (first | refine blk_drewN ?_ _ | refine blk_drew ?_ | refine blk_alloc ?_ _)); refine blk_far ?_ NB234_223.out _; (with_reducible repeat (first | refine blk_drewN ?_ _ | refine blk_drew ?_ | refine blk_alloc ?_ _)); refine blk_far ?_ NB234_223.out _; (with_reducible repeat (first | refine blk_drewN ?_ _ | refine blk_drew ?_ | refine blk_alloc ?_ _)); exact BK234.out))⟩; have n5_ : Aside0 (Below w.heap.size w w24) := ⟨(by rw [hw]; exact (by repeat (first | (with_reducible first | exact HB.out | apply below_alloc | apply pw_below_drewN | apply below_drew1 | refine below_set ?_ GE223.out | refine below_set ?_ GE234.out) | exact HB.out)))⟩; clear hw; clear HO221; clear HO228; clear HO231; clear BK223; clear BK234; clear HB; have HO221 := n0_; have HO228 := n1_; have HO231 := n2_; have BK223 := n3_; have BK234 := n4_; have HB := n5_; clear n0_ n1_ n2_ n3_ n4_ n5_; obtain ⟨Ao25, co25, eo25⟩ := Kd.V_slice HO231.out; subst eo25; have hcz26_0 : w24.cell? ⟨gb234, 0, none⟩ = some (.slice none 0 0) := (blk_cell BK234.out 0).trans rfl; have hcz26_1 : w24.cell? ⟨gb234, 1, none⟩ = some (.int .i64 0) := (blk_cell BK234.out 1).trans rfl; have hfz26_0 := blk_frozen BK234.out 0; have hfz26_1 := blk_frozen BK234.out 1) | ((with_reducible refine gate_store (t := 33) (p := 11) rfl ?_); refine store_event (t := 33) (p := 11) (v := ?vo_w27) (w1 := ((w24.setCell ⟨gb234, 0, none⟩ (.slice Ao25 t229.length co25)).setCell ⟨gb234, 1, none⟩ (.int .i64 t232))) ?hg ?ho ?hn ?hr ?_; (case ho => rfl); (case hg => rfl); (case hn => rfl); (case hr => first | (go_simp; done) | (go_simp; rfl)); intro w27 hw; have n0_ : Aside0 (Kd.R Kd.string 9 w27 w.heap.size (fun _ => True) (.slice Ao16 t219.length co16) t219) := ⟨(by rw [hw]; exact (by (with_reducible repeat (first | apply Kd.R_alloc | apply Kd.R_drewN | apply Kd.R_drew)); exact Kd.R_mono (Kd.R_far (p := ⟨gb234, 1, none⟩) (Kd.R_far (p := ⟨gb234, 0, none⟩) (Kd.R_types HO221.out BK234.out (by decide)) (fun _ hk => hk.2) (.slice Ao25 t229.length co25)) (fun _ hk => hk.2) (.int .i64 t232)) (fun _ hk => trivial)))⟩; have n1_ : Aside0 (Kd.V Kd.string 9 w27 w.heap.size (fun k_ => k_ ≠ gb223 ∧ k_ ≠ gb234) (.slice Ao23 t226.length co23) t226) := ⟨(by rw [hw]; exact (by (with_reducible repeat (first | apply Kd.V_alloc | apply Kd.V_drewN | apply Kd.V_drew)); exact Kd.V_mono (Kd.V_far (p := ⟨gb234, 1, none⟩) (Kd.V_far (p := ⟨gb234, 0, none⟩) (Kd.V_mono HO228.out (fun k_ hk => (⟨hk, hk.2⟩ : _ ∧ k_ ≠ gb234))) (fun _ hk => hk.2) (.slice Ao25 t229.length co25)) (fun _ hk => hk.2) (.int .i64 t232)) (fun _ hk => ⟨hk.1.1, hk.1.2⟩)))⟩; have n2_ : Aside0 (Kd.V (Kd.int .u64) 24 w27 w.heap.size (fun k_ => k_ ≠ gb223 ∧ k_ ≠ gb234) (.slice Ao25 t229.length co25) t229) := ⟨(by rw [hw]; exact (by (with_reducible repeat (first | apply Kd.V_alloc | apply Kd.V_drewN | apply Kd.V_drew)); exact Kd.V_mono (Kd.V_far (p := ⟨gb234, 1, none⟩) (Kd.V_far (p := ⟨gb234, 0, none⟩) (Kd.V_mono HO231.out (fun k_ hk => (⟨hk, hk.2⟩ : _ ∧ k_ ≠ gb234))) (fun _ hk => hk.2) (.slice Ao25 t229.length co25)) (fun _ hk => hk.2) (.int .i64 t232)) (fun _ hk => ⟨hk.1.1, hk.1.2⟩)))⟩; have n3_ : Aside0 (w27.heap[gb223]? = some (.cells #[.int .i64 t224, .int .u64 t225, .slice Ao23 t226.length co23] 27 (0, 0))) := ⟨(by rw [hw]; exact (by (with_reducible repeat (first | refine blk_drewN ?_ _ | refine blk_drew ?_ | refine blk_alloc ?_ _)); refine blk_far ?_ NB223_234.out _; (with_reducible repeat (first | refine blk_drewN ?_ _ | refine blk_drew ?_ | refine blk_alloc ?_ _)); refine blk_far ?_ NB223_234.out _; (with_reducible repeat (first | refine blk_drewN ?_ _ | refine blk_drew ?_ | refine blk_alloc ?_ _)); exact BK223.out))⟩; have n4_ : Aside0 (w27.heap[gb234]? = some (.cells #[.slice Ao25 t229.length co25, .int .i64 t232] 33 (0, 0))) := ⟨(by rw [hw]; exact (by (with_reducible repeat (first | refine blk_drewN ?_ _ | refine blk_drew ?_ | refine blk_alloc ?_ _)); refine blk_put (cs := #[.slice Ao25 t229.length co25, .int .i64 0]) ?_ 1 _ rfl; (with_reducible repeat (first | refine blk_drewN ?_ _ | refine blk_drew ?_ | refine blk_alloc ?_ _)); refine blk_put (cs := #[.slice none 0 0, .int .i64 0]) ?_ 0 _ rfl; (with_reducible repeat (first | refine blk_drewN ?_ _ | refine blk_drew ?_ | refine blk_alloc ?_ _)); exact BK234.out))⟩; have n5_ : Aside0 (Below w.heap.size w w27) := ⟨(by rw [hw]; exact (by repeat (first | (with_reducible first | exact HB.out | apply below_alloc | apply pw_below_drewN | apply below_drew1 | refine below_set ?_ GE223.out | refine below_set ?_ GE234.out) | exact HB.out)))⟩; clear hw; clear HO221; clear HO228; clear HO231; clear BK223; clear BK234; clear HB; have HO221 := n0_; have HO228 := n1_; have HO231 := n2_; have BK223 := n3_; have BK234 := n4_; have HB := n5_; clear n0_ n1_ n2_ n3_ n4_ n5_; have hcz28_0 : w27.cell? ⟨gb223, 0, none⟩ = some (.int .i64 t224) := (blk_cell BK223.out 0).trans rfl; have hcz28_1 : w27.cell? ⟨gb223, 1, none⟩ = some (.int .u64 t225) := (blk_cell BK223.out 1).trans rfl; have hcz28_2 : w27.cell? ⟨gb223, 2, none⟩ = some (.slice Ao23 t226.length co23) := (blk_cell BK223.out 2).trans rfl; have hfz28_0 := blk_frozen BK223.out 0; have hfz28_1 := blk_frozen BK223.out 1; have hfz28_2 := blk_frozen BK223.out 2) | ((with_reducible refine gate_callee (f := 10) rfl ?_); refine goesL_ (some 55) rfl rfl Try.func10 (by kernel_rfl) rfl #[.agg #[.int .i64 t224, .int .u64 t225, .slice Ao23 t226.length co23], .string (⟨#[110, 101, 119]⟩ : ByteArray), .int .u64 (IntKind.u64.wrap (1 + (IntKind.u64.wrap (Int.tmod a1 63)))), .agg #[.slice A2 l2.length c2, .int .i64 0]] rfl (by (try simp only [List.map_toArray, List.map_cons, List.map_nil]); first | done | rfl | (simp only [List.length_drop, List.length_take]; rfl)) ?_; (with_reducible refine (slots_Add.calls kj3 t224 t225 (fun k_ => (k_ ≠ gb223 ∧ k_ ≠ gb234)) _ _ t226 (⟨#[110, 101, 119]⟩ : ByteArray) (IntKind.u64.wrap (1 + (IntKind.u64.wrap (Int.tmod a1 63)))) (fun k_ => k_ < w.heap.size) _ _ l2 0 t235 t236 t237 t240 t243 t244 _ ?side1 ?side2 A11.out).mono ?_); (case side1 => exact HO228.out); (case side2 => exact Kd.V_mk HC2.out (Kd.F_below (Kd.C_F (Kd.heap_int .u64) HR2.out) (by repeat (first | (with_reducible first | exact HB.out | apply below_alloc | apply pw_below_drewN | apply below_drew1 | refine below_set ?_ GE223.out | refine below_set ?_ GE234.out) | exact HB.out)))); rintro e w29 ⟨v238, v241, rfl, ho0, ho1, hb⟩; refine ⟨_, rfl, ?_⟩; have n0_ := Aside0.mk (Kd.R_below (by (with_reducible repeat (first | apply Kd.R_alloc | apply Kd.R_drewN | apply Kd.R_drew)); exact HO221.out) hb); have n1_ := Aside0.mk (Kd.V_below (by (with_reducible repeat (first | apply Kd.V_alloc | apply Kd.V_drewN | apply Kd.V_drew)); exact HO228.out) hb); have n2_ := Aside0.mk (Kd.V_below (by (with_reducible repeat (first | apply Kd.V_alloc | apply Kd.V_drewN | apply Kd.V_drew)); exact HO231.out) hb); have n3_ := Aside0.mk (Kd.V_lower (Kd.V_mono (ok' := fun k_ => k_ ≠ gb223 ∧ k_ ≠ gb234) ho0 (fun k_ hk_ => ⟨Or.elim hk_ (fun hs_ => Or.elim hs_ (fun hs_ => hs_.1) (fun hs_ => fun e_ => Nat.not_le.2 hs_ (by rw [e_]; exact GW223.out))) (fun hn_ => (Kd.freshB (g := gb223) (o := .cells #[.int .i64 t224, .int .u64 t225, .slice Ao23 t226.length co23] 27 (0, 0)) (by (with_reducible repeat (first | refine blk_drewN ?_ _ | refine blk_drew ?_ | refine blk_alloc ?_ _)); exact BK223.out) k_ hn_)), Or.elim hk_ (fun hs_ => Or.elim hs_ (fun hs_ => hs_.2) (fun hs_ => fun e_ => Nat.not_le.2 hs_ (by rw [e_]; exact GW234.out))) (fun hn_ => (Kd.freshB (g := gb234) (o := .cells #[.slice Ao25 t229.length co25, .int .i64 t232] 33 (0, 0)) (by (with_reducible repeat (first | refine blk_drewN ?_ _ | refine blk_drew ?_ | refine blk_alloc ?_ _)); exact BK234.out) k_ hn_))⟩)) (below_size (by repeat (first | (with_reducible first | exact HB.out | apply below_alloc | apply pw_below_drewN | apply below_drew1 | refine below_set ?_ GE223.out | refine below_set ?_ GE234.out) | exact HB.out)))); have n4_ := Aside0.mk (Kd.V_lower (Kd.V_mono (ok' := fun k_ => k_ ≠ gb223 ∧ k_ ≠ gb234) ho1 (fun k_ hk_ => ⟨Or.elim hk_ (fun hs_ => Or.elim hs_ (fun hs_ => hs_.1) (fun hs_ => fun e_ => Nat.not_le.2 hs_ (by rw [e_]; exact GW223.out))) (fun hn_ => (Kd.freshB (g := gb223) (o := .cells #[.int .i64 t224, .int .u64 t225, .slice Ao23 t226.length co23] 27 (0, 0)) (by (with_reducible repeat (first | refine blk_drewN ?_ _ | refine blk_drew ?_ | refine blk_alloc ?_ _)); exact BK223.out) k_ hn_)), Or.elim hk_ (fun hs_ => Or.elim hs_ (fun hs_ => hs_.2) (fun hs_ => fun e_ => Nat.not_le.2 hs_ (by rw [e_]; exact GW234.out))) (fun hn_ => (Kd.freshB (g := gb234) (o := .cells #[.slice Ao25 t229.length co25, .int .i64 t232] 33 (0, 0)) (by (with_reducible repeat (first | refine blk_drewN ?_ _ | refine blk_drew ?_ | refine blk_alloc ?_ _)); exact BK234.out) k_ hn_))⟩)) (below_size (by repeat (first | (with_reducible first | exact HB.out | apply below_alloc | apply pw_below_drewN | apply below_drew1 | refine below_set ?_ GE223.out | refine below_set ?_ GE234.out) | exact HB.out)))); have n5_ := Aside0.mk (blk_below (g := gb223) (o := .cells #[.int .i64 t224, .int .u64 t225, .slice Ao23 t226.length co23] 27 (0, 0)) (by (with_reducible repeat (first | refine blk_drewN ?_ _ | refine blk_drew ?_ | refine blk_alloc ?_ _)); exact BK223.out) hb); have n6_ := Aside0.mk (blk_below (g := gb234) (o := .cells #[.slice Ao25 t229.length co25, .int .i64 t232] 33 (0, 0)) (by (with_reducible repeat (first | refine blk_drewN ?_ _ | refine blk_drew ?_ | refine blk_alloc ?_ _)); exact BK234.out) hb); have n7_ := Aside0.mk (below_step (by repeat (first | (with_reducible first | exact HB.out | apply below_alloc | apply pw_below_drewN | apply below_drew1 | refine below_set ?_ GE223.out | refine below_set ?_ GE234.out) | exact HB.out)) hb); clear HO221; clear HO228; clear HO231; clear BK223; clear BK234; clear HB; have HO221 := n0_; have HO228 := n1_; have HO231 := n2_; have HO239 := n3_; have HO242 := n4_; have BK223 := n5_; have BK234 := n6_; have HB := n7_; clear n0_ n1_ n2_ n3_ n4_ n5_ n6_ n7_; (try clear hb); (try clear hb2); (try clear hk); (try clear hi); (try clear ho0); (try clear ho1)) | ((with_reducible refine gate_dst (N := 13) rfl ?_); (try (refine gate_guard (by rfl) ?_; dsimp only)); refine box_event ?hg (N := 13) ?hd (cs := #[.int .i64 0, .int .u64 0, .slice none 0 0]) (t := 27) ?hr ?_; (case hd => rfl); (case hg => rfl); (case hr => first | (go_simp; done) | (go_simp; rfl)); intro gb245 hg w30 hbox hb; have n0_ := Aside0.mk (Kd.R_below (by (with_reducible repeat (first | apply Kd.R_alloc | apply Kd.R_drewN | apply Kd.R_drew)); exact HO221.out) hb); have n1_ := Aside0.mk (Kd.V_below (Kd.V_elderB (by (with_reducible repeat (first | apply Kd.V_alloc | apply Kd.V_drewN | apply Kd.V_drew)); exact HO228.out) gb245 (Nat.le_of_eq hg.symm)) hb); have n2_ := Aside0.mk (Kd.V_below (Kd.V_elderB (by (with_reducible repeat (first | apply Kd.V_alloc | apply Kd.V_drewN | apply Kd.V_drew)); exact HO231.out) gb245 (Nat.le_of_eq hg.symm)) hb); have n3_ := Aside0.mk (Kd.V_below (Kd.V_elderB (by (with_reducible repeat (first | apply Kd.V_alloc | apply Kd.V_drewN | apply Kd.V_drew)); exact HO239.out) gb245 (Nat.le_of_eq hg.symm)) hb); have n4_ := Aside0.mk (Kd.V_below (Kd.V_elderB (by (with_reducible repeat (first | apply Kd.V_alloc | apply Kd.V_drewN | apply Kd.V_drew)); exact HO242.out) gb245 (Nat.le_of_eq hg.symm)) hb); have n5_ := Aside0.mk (blk_below (g := gb223) (o := .cells #[.int .i64 t224, .int .u64 t225, .slice Ao23 t226.length co23] 27 (0, 0)) (by (with_reducible repeat (first | refine blk_drewN ?_ _ | refine blk_drew ?_ | refine blk_alloc ?_ _)); exact BK223.out) hb); have n6_ := Aside0.mk (blk_below (g := gb234) (o := .cells #[.slice Ao25 t229.length co25, .int .i64 t232] 33 (0, 0)) (by (with_reducible repeat (first | refine blk_drewN ?_ _ | refine blk_drew ?_ | refine blk_alloc ?_ _)); exact BK234.out) hb); have n7_ := Aside0.mk (below_step (by repeat (first | (with_reducible first | exact HB.out | apply below_alloc | apply pw_below_drewN | apply below_drew1 | refine below_set ?_ GE223.out | refine below_set ?_ GE234.out) | exact HB.out)) hb); have n8_ := Aside0.mk (hbox); have n9_ := Aside0.mk ((by rw [hg]; exact (below_size (by repeat (first | (with_reducible first | exact HB.out | apply below_alloc | apply pw_below_drewN | apply below_drew1 | refine below_set ?_ GE223.out | refine below_set ?_ GE234.out) | exact HB.out))) : w.heap.size ≤ gb245)); have n10_ := Aside0.mk ((by rw [hg]; exact (below_size (by repeat (first | (with_reducible first | exact HB.out | apply below_alloc | apply pw_below_drewN | apply below_drew1 | refine below_set ?_ GE223.out | refine below_set ?_ GE234.out) | exact HB.out))) : w.heap.size ≤ gb245)); have n11_ := Aside0.mk ((by rw [hg]; exact Nat.ne_of_lt (blk_lt (g := gb223) (o := .cells #[.int .i64 t224, .int .u64 t225, .slice Ao23 t226.length co23] 27 (0, 0)) (by (with_reducible repeat (first | refine blk_drewN ?_ _ | refine blk_drew ?_ | refine blk_alloc ?_ _)); exact BK223.out)) : gb223 ≠ gb245)); have n12_ := Aside0.mk ((by rw [hg]; exact Nat.ne_of_gt (blk_lt (g := gb223) (o := .cells #[.int .i64 t224, .int .u64 t225, .slice Ao23 t226.length co23] 27 (0, 0)) (by (with_reducible repeat (first | refine blk_drewN ?_ _ | refine blk_drew ?_ | refine blk_alloc ?_ _)); exact BK223.out)) : gb245 ≠ gb223)); have n13_ := Aside0.mk ((by rw [hg]; exact Nat.ne_of_lt (blk_lt (g := gb234) (o := .cells #[.slice Ao25 t229.length co25, .int .i64 t232] 33 (0, 0)) (by (with_reducible repeat (first | refine blk_drewN ?_ _ | refine blk_drew ?_ | refine blk_alloc ?_ _)); exact BK234.out)) : gb234 ≠ gb245)); have n14_ := Aside0.mk ((by rw [hg]; exact Nat.ne_of_gt (blk_lt (g := gb234) (o := .cells #[.slice Ao25 t229.length co25, .int .i64 t232] 33 (0, 0)) (by (with_reducible repeat (first | refine blk_drewN ?_ _ | refine blk_drew ?_ | refine blk_alloc ?_ _)); exact BK234.out)) : gb245 ≠ gb234)); clear HO221; clear HO228; clear HO231; clear HO239; clear HO242; clear BK223; clear BK234; clear HB; have HO221 := n0_; have HO228 := n1_; have HO231 := n2_; have HO239 := n3_; have HO242 := n4_; have BK223 := n5_; have BK234 := n6_; have HB := n7_; have BK245 := n8_; have GW245 := n9_; have GE245 := n10_; have NB223_245 := n11_; have NB245_223 := n12_; have NB234_245 := n13_; have NB245_234 := n14_; clear n0_ n1_ n2_ n3_ n4_ n5_ n6_ n7_ n8_ n9_ n10_ n11_ n12_ n13_ n14_; clear hb hbox hg) | ((with_reducible refine gate_dst (N := 14) rfl ?_); (try (refine gate_guard (by rfl) ?_; dsimp only)); refine box_event ?hg (N := 14) ?hd (cs := #[.slice none 0 0, .int .i64 0]) (t := 33) ?hr ?_; (case hd => rfl); (case hg => rfl); (case hr => first | (go_simp; done) | (go_simp; rfl)); intro gb246 hg w31 hbox hb; have n0_ := Aside0.mk (Kd.R_below (by (with_reducible repeat (first | apply Kd.R_alloc | apply Kd.R_drewN | apply Kd.R_drew)); exact HO221.out) hb); have n1_ := Aside0.mk (Kd.V_below (Kd.V_elderB (by (with_reducible repeat (first | apply Kd.V_alloc | apply Kd.V_drewN | apply Kd.V_drew)); exact HO228.out) gb246 (Nat.le_of_eq hg.symm)) hb); have n2_ := Aside0.mk (Kd.V_below (Kd.V_elderB (by (with_reducible repeat (first | apply Kd.V_alloc | apply Kd.V_drewN | apply Kd.V_drew)); exact HO231.out) gb246 (Nat.le_of_eq hg.symm)) hb); have n3_ := Aside0.mk (Kd.V_below (Kd.V_elderB (by (with_reducible repeat (first | apply Kd.V_alloc | apply Kd.V_drewN | apply Kd.V_drew)); exact HO239.out) gb246 (Nat.le_of_eq hg.symm)) hb); have n4_ := Aside0.mk (Kd.V_below (Kd.V_elderB (by (with_reducible repeat (first | apply Kd.V_alloc | apply Kd.V_drewN | apply Kd.V_drew)); exact HO242.out) gb246 (Nat.le_of_eq hg.symm)) hb); have n5_ := Aside0.mk (blk_below (g := gb223) (o := .cells #[.int .i64 t224, .int .u64 t225, .slice Ao23 t226.length co23] 27 (0, 0)) (by (with_reducible repeat (first | refine blk_drewN ?_ _ | refine blk_drew ?_ | refine blk_alloc ?_ _)); exact BK223.out) hb); have n6_ := Aside0.mk (blk_below (g := gb234) (o := .cells #[.slice Ao25 t229.length co25, .int .i64 t232] 33 (0, 0)) (by (with_reducible repeat (first | refine blk_drewN ?_ _ | refine blk_drew ?_ | refine blk_alloc ?_ _)); exact BK234.out) hb); have n7_ := Aside0.mk (blk_below (g := gb245) (o := .cells #[.int .i64 0, .int .u64 0, .slice none 0 0] 27 (0, 0)) (by (with_reducible repeat (first | refine blk_drewN ?_ _ | refine blk_drew ?_ | refine blk_alloc ?_ _)); exact BK245.out) hb); have n8_ := Aside0.mk (below_step (by repeat (first | (with_reducible first | exact HB.out | apply below_alloc | apply pw_below_drewN | apply below_drew1 | refine below_set ?_ GE223.out | refine below_set ?_ GE234.out | refine below_set ?_ GE245.out) | exact HB.out)) hb); have n9_ := Aside0.mk (hbox); have n10_ := Aside0.mk ((by rw [hg]; exact (below_size (by repeat (first | (with_reducible first | exact HB.out | apply below_alloc | apply pw_below_drewN | apply below_drew1 | refine below_set ?_ GE223.out | refine below_set ?_ GE234.out | refine below_set ?_ GE245.out) | exact HB.out))) : w.heap.size ≤ gb246)); have n11_ := Aside0.mk ((by rw [hg]; exact (below_size (by repeat (first | (with_reducible first | exact HB.out | apply below_alloc | apply pw_below_drewN | apply below_drew1 | refine below_set ?_ GE223.out | refine below_set ?_ GE234.out | refine below_set ?_ GE245.out) | exact HB.out))) : w.heap.size ≤ gb246)); have n12_ := Aside0.mk ((by rw [hg]; exact Nat.ne_of_lt (blk_lt (g := gb223) (o := .cells #[.int .i64 t224, .int .u64 t225, .slice Ao23 t226.length co23] 27 (0, 0)) (by (with_reducible repeat (first | refine blk_drewN ?_ _ | refine blk_drew ?_ | refine blk_alloc ?_ _)); exact BK223.out)) : gb223 ≠ gb246)); have n13_ := Aside0.mk ((by rw [hg]; exact Nat.ne_of_gt (blk_lt (g := gb223) (o := .cells #[.int .i64 t224, .int .u64 t225, .slice Ao23 t226.length co23] 27 (0, 0)) (by (with_reducible repeat (first | refine blk_drewN ?_ _ | refine blk_drew ?_ | refine blk_alloc ?_ _)); exact BK223.out)) : gb246 ≠ gb223)); have n14_ := Aside0.mk ((by rw [hg]; exact Nat.ne_of_lt (blk_lt (g := gb234) (o := .cells #[.slice Ao25 t229.length co25, .int .i64 t232] 33 (0, 0)) (by (with_reducible repeat (first | refine blk_drewN ?_ _ | refine blk_drew ?_ | refine blk_alloc ?_ _)); exact BK234.out)) : gb234 ≠ gb246)); have n15_ := Aside0.mk ((by rw [hg]; exact Nat.ne_of_gt (blk_lt (g := gb234) (o := .cells #[.slice Ao25 t229.length co25, .int .i64 t232] 33 (0, 0)) (by (with_reducible repeat (first | refine blk_drewN ?_ _ | refine blk_drew ?_ | refine blk_alloc ?_ _)); exact BK234.out)) : gb246 ≠ gb234)); have n16_ := Aside0.mk ((by rw [hg]; exact Nat.ne_of_lt (blk_lt (g := gb245) (o := .cells #[.int .i64 0, .int .u64 0, .slice none 0 0] 27 (0, 0)) (by (with_reducible repeat (first | refine blk_drewN ?_ _ | refine blk_drew ?_ | refine blk_alloc ?_ _)); exact BK245.out)) : gb245 ≠ gb246)); have n17_ := Aside0.mk ((by rw [hg]; exact Nat.ne_of_gt (blk_lt (g := gb245) (o := .cells #[.int .i64 0, .int .u64 0, .slice none 0 0] 27 (0, 0)) (by (with_reducible repeat (first | refine blk_drewN ?_ _ | refine blk_drew ?_ | refine blk_alloc ?_ _)); exact BK245.out)) : gb246 ≠ gb245)); clear HO221; clear HO228; clear HO231; clear HO239; clear HO242; clear BK223; clear BK234; clear BK245; clear HB; have HO221 := n0_; have HO228 := n1_; have HO231 := n2_; have HO239 := n3_; have HO242 := n4_; have BK223 := n5_; have BK234 := n6_; have BK245 := n7_; have HB := n8_; have BK246 := n9_; have GW246 := n10_; have GE246 := n11_; have NB223_246 := n12_; have NB246_223 := n13_; have NB234_246 := n14_; have NB246_234 := n15_; have NB245_246 := n16_; have NB246_245 := n17_; clear n0_ n1_ n2_ n3_ n4_ n5_ n6_ n7_ n8_ n9_ n10_ n11_ n12_ n13_ n14_ n15_ n16_ n17_; clear hb hbox hg; have hnb32 := NB245_223.out; have hnc32 := NB223_245.out; have hnb33 := NB245_234.out; have hnc33 := NB234_245.out; have hnb34 := NB245_246.out; have hnc34 := NB246_245.out; have hcz35_0 : w31.cell? ⟨gb245, 0, none⟩ = some (.int .i64 0) := (blk_cell BK245.out 0).trans rfl; have hcz35_1 : w31.cell? ⟨gb245, 1, none⟩ = some (.int .u64 0) := (blk_cell BK245.out 1).trans rfl; have hcz35_2 : w31.cell? ⟨gb245, 2, none⟩ = some (.slice none 0 0) := (blk_cell BK245.out 2).trans rfl; have hfz35_0 := blk_frozen BK245.out 0; have hfz35_1 := blk_frozen BK245.out 1; have hfz35_2 := blk_frozen BK245.out 2; obtain ⟨Ao36, co36, eo36⟩ := Kd.V_slice HO239.out; subst eo36; obtain ⟨Ao37, co37, eo37⟩ := Kd.V_slice HO242.out; subst eo37; have hnb38 := NB246_223.out; have hnc38 := NB223_246.out; have hnb39 := NB246_234.out; have hnc39 := NB234_246.out; have hcz40_0 : w31.cell? ⟨gb246, 0, none⟩ = some (.slice none 0 0) := (blk_cell BK246.out 0).trans rfl; have hcz40_1 : w31.cell? ⟨gb246, 1, none⟩ = some (.int .i64 0) := (blk_cell BK246.out 1).trans rfl; have hfz40_0 := blk_frozen BK246.out 0; have hfz40_1 := blk_frozen BK246.out 1))
        (try simp only [Act.put, List.setIfInBounds_toArray, List.set_cons_zero, List.set_cons_succ])
        go_cut [77] (fun v77 wc => ∃ (kq : Nat) (x77_11 : Bool), v77 = .bool x77_11 ∧ Aside0 (samphirelaw17_SlotsPlaces.j1 kq l2 (IntKind.u64.wrap (1 + (IntKind.u64.wrap (Int.tmod a1 63)))) x77_11 t235 t236 t237 = some r) ∧ Aside0 (kq ≤ kj3) ∧ Aside0 (Kd.V Kd.string 9 wc w.heap.size (fun k_ => k_ ≠ gb223 ∧ k_ ≠ gb234 ∧ k_ ≠ gb245 ∧ k_ ≠ gb246) (.slice Ao23 t226.length co23) t226) ∧ Aside0 (Kd.V (Kd.int .u64) 24 wc w.heap.size (fun k_ => k_ ≠ gb223 ∧ k_ ≠ gb234 ∧ k_ ≠ gb245 ∧ k_ ≠ gb246) (.slice Ao25 t229.length co25) t229) ∧ Aside0 (Kd.V Kd.string 9 wc w.heap.size (fun k_ => k_ ≠ gb223 ∧ k_ ≠ gb234 ∧ k_ ≠ gb245 ∧ k_ ≠ gb246) (.slice Ao36 t237.length co36) t237) ∧ Aside0 (Kd.V (Kd.int .u64) 24 wc w.heap.size (fun k_ => k_ ≠ gb223 ∧ k_ ≠ gb234 ∧ k_ ≠ gb245 ∧ k_ ≠ gb246) (.slice Ao37 t240.length co37) t240) ∧ Aside0 (wc.heap[gb223]? = some (.cells #[.int .i64 t224, .int .u64 t225, (.slice Ao23 t226.length co23)] 27 (0, 0))) ∧ Aside0 (wc.heap[gb234]? = some (.cells #[(.slice Ao25 t229.length co25), .int .i64 t232] 33 (0, 0))) ∧ Aside0 (wc.heap[gb245]? = some (.cells #[.int .i64 t235, .int .u64 t236, (.slice Ao36 t237.length co36)] 27 (0, 0))) ∧ Aside0 (wc.heap[gb246]? = some (.cells #[(.slice Ao37 t240.length co37), .int .i64 t243] 33 (0, 0))) ∧ Aside0 (Below w.heap.size w wc))
        case first =>
          have H := HC12.out
          clear HC12
          by_cases c41 : t233 = 0
          · rw [if_pos c41] at H
            have c41b0 : (t233 == 0) = true := beq_iff_eq.mpr c41
            have c41b1 : (t233 != 0) = false := bne_eq_false_iff_eq.mpr c41
            clear c41
            (first | rw [c41b0] | (simp only [i64_w, i32_w]; rw [c41b0]) | skip)
            by_cases c42 : t244 = 0
            · rw [if_pos c42] at H
              have c42b0 : (t244 == 0) = true := beq_iff_eq.mpr c42
              have c42b1 : (t244 != 0) = false := bne_eq_false_iff_eq.mpr c42
              clear c42
              by_cases c43 : (t237.length : Int) = (wrap64 (1 + (wrap64 (Int.tmod a0 8))))
              · rw [if_pos c43] at H
                have c43b0 : ((t237.length : Int) == (wrap64 (1 + (wrap64 (Int.tmod a0 8))))) = true := beq_iff_eq.mpr c43
                have c43b1 : ((t237.length : Int) != (wrap64 (1 + (wrap64 (Int.tmod a0 8))))) = false := bne_eq_false_iff_eq.mpr c43
                clear c43
                have H' := Aside0.mk H
                clear H
                have hnb44 := NB245_223.out
                have hnc44 := NB223_245.out
                have hnb45 := NB245_234.out
                have hnc45 := NB234_245.out
                have hnb46 := NB245_246.out
                have hnc46 := NB246_245.out
                have hcz47_0 : w31.cell? ⟨gb245, 0, none⟩ = some (.int .i64 0) := (blk_cell BK245.out 0).trans rfl
                have hcz47_1 : w31.cell? ⟨gb245, 1, none⟩ = some (.int .u64 0) := (blk_cell BK245.out 1).trans rfl
                have hcz47_2 : w31.cell? ⟨gb245, 2, none⟩ = some (.slice none 0 0) := (blk_cell BK245.out 2).trans rfl
                have hfz47_0 := blk_frozen BK245.out 0
                have hfz47_1 := blk_frozen BK245.out 1
                have hfz47_2 := blk_frozen BK245.out 2
                have hnb48 := NB246_223.out
                have hnc48 := NB223_246.out
                have hnb49 := NB246_234.out
                have hnc49 := NB234_246.out
                have hcz50_0 : w31.cell? ⟨gb246, 0, none⟩ = some (.slice none 0 0) := (blk_cell BK246.out 0).trans rfl
                have hcz50_1 : w31.cell? ⟨gb246, 1, none⟩ = some (.int .i64 0) := (blk_cell BK246.out 1).trans rfl
                have hfz50_0 := blk_frozen BK246.out 0
                have hfz50_1 := blk_frozen BK246.out 1
                go_wp2
                go_meet
                case rel => exact ⟨_, ((t243 != (wrap64 (1 + (wrap64 (Int.tmod a0 8)))))), (by first | rfl | (simp; done) | (simp [*]; done)), H', ⟨by have := HJ3.out; first | omega | exact Nat.le_refl _⟩, ⟨by (with_reducible repeat (first | apply Kd.V_alloc | apply Kd.V_drewN | apply Kd.V_drew)); exact Kd.V_mono (Kd.V_far (p := ⟨gb246, 1, none⟩) (Kd.V_far (p := ⟨gb246, 0, none⟩) (Kd.V_far (p := ⟨gb245, 2, none⟩) (Kd.V_far (p := ⟨gb245, 1, none⟩) (Kd.V_far (p := ⟨gb245, 0, none⟩) (Kd.V_mono (Kd.V_mono HO228.out (fun k_ hk => (⟨hk, hk.1.2⟩ : _ ∧ k_ ≠ gb245))) (fun k_ hk => (⟨hk, hk.1.2⟩ : _ ∧ k_ ≠ gb246))) (fun _ hk => hk.1.2) (.int .i64 t235)) (fun _ hk => hk.1.2) (.int .u64 t236)) (fun _ hk => hk.1.2) (.slice Ao36 t237.length co36)) (fun _ hk => hk.2) (.slice Ao37 t240.length co37)) (fun _ hk => hk.2) (.int .i64 t243)) (fun _ hk => ⟨hk.1.1.1.1.1, ⟨hk.1.1.1.1.2, ⟨hk.1.1.1.2, hk.1.1.2⟩⟩⟩)⟩, ⟨by (with_reducible repeat (first | apply Kd.V_alloc | apply Kd.V_drewN | apply Kd.V_drew)); exact Kd.V_mono (Kd.V_far (p := ⟨gb246, 1, none⟩) (Kd.V_far (p := ⟨gb246, 0, none⟩) (Kd.V_far (p := ⟨gb245, 2, none⟩) (Kd.V_far (p := ⟨gb245, 1, none⟩) (Kd.V_far (p := ⟨gb245, 0, none⟩) (Kd.V_mono (Kd.V_mono HO231.out (fun k_ hk => (⟨hk, hk.1.2⟩ : _ ∧ k_ ≠ gb245))) (fun k_ hk => (⟨hk, hk.1.2⟩ : _ ∧ k_ ≠ gb246))) (fun _ hk => hk.1.2) (.int .i64 t235)) (fun _ hk => hk.1.2) (.int .u64 t236)) (fun _ hk => hk.1.2) (.slice Ao36 t237.length co36)) (fun _ hk => hk.2) (.slice Ao37 t240.length co37)) (fun _ hk => hk.2) (.int .i64 t243)) (fun _ hk => ⟨hk.1.1.1.1.1, ⟨hk.1.1.1.1.2, ⟨hk.1.1.1.2, hk.1.1.2⟩⟩⟩)⟩, ⟨by (with_reducible repeat (first | apply Kd.V_alloc | apply Kd.V_drewN | apply Kd.V_drew)); exact Kd.V_mono (Kd.V_far (p := ⟨gb246, 1, none⟩) (Kd.V_far (p := ⟨gb246, 0, none⟩) (Kd.V_far (p := ⟨gb245, 2, none⟩) (Kd.V_far (p := ⟨gb245, 1, none⟩) (Kd.V_far (p := ⟨gb245, 0, none⟩) (Kd.V_mono (Kd.V_mono HO239.out (fun k_ hk => (⟨hk, hk.1.2⟩ : _ ∧ k_ ≠ gb245))) (fun k_ hk => (⟨hk, hk.1.2⟩ : _ ∧ k_ ≠ gb246))) (fun _ hk => hk.1.2) (.int .i64 t235)) (fun _ hk => hk.1.2) (.int .u64 t236)) (fun _ hk => hk.1.2) (.slice Ao36 t237.length co36)) (fun _ hk => hk.2) (.slice Ao37 t240.length co37)) (fun _ hk => hk.2) (.int .i64 t243)) (fun _ hk => ⟨hk.1.1.1.1.1, ⟨hk.1.1.1.1.2, ⟨hk.1.1.1.2, hk.1.1.2⟩⟩⟩)⟩, ⟨by (with_reducible repeat (first | apply Kd.V_alloc | apply Kd.V_drewN | apply Kd.V_drew)); exact Kd.V_mono (Kd.V_far (p := ⟨gb246, 1, none⟩) (Kd.V_far (p := ⟨gb246, 0, none⟩) (Kd.V_far (p := ⟨gb245, 2, none⟩) (Kd.V_far (p := ⟨gb245, 1, none⟩) (Kd.V_far (p := ⟨gb245, 0, none⟩) (Kd.V_mono (Kd.V_mono HO242.out (fun k_ hk => (⟨hk, hk.1.2⟩ : _ ∧ k_ ≠ gb245))) (fun k_ hk => (⟨hk, hk.1.2⟩ : _ ∧ k_ ≠ gb246))) (fun _ hk => hk.1.2) (.int .i64 t235)) (fun _ hk => hk.1.2) (.int .u64 t236)) (fun _ hk => hk.1.2) (.slice Ao36 t237.length co36)) (fun _ hk => hk.2) (.slice Ao37 t240.length co37)) (fun _ hk => hk.2) (.int .i64 t243)) (fun _ hk => ⟨hk.1.1.1.1.1, ⟨hk.1.1.1.1.2, ⟨hk.1.1.1.2, hk.1.1.2⟩⟩⟩)⟩, ⟨by (with_reducible repeat (first | refine blk_drewN ?_ _ | refine blk_drew ?_ | refine blk_alloc ?_ _)); refine blk_far ?_ NB223_246.out _; (with_reducible repeat (first | refine blk_drewN ?_ _ | refine blk_drew ?_ | refine blk_alloc ?_ _)); refine blk_far ?_ NB223_246.out _; (with_reducible repeat (first | refine blk_drewN ?_ _ | refine blk_drew ?_ | refine blk_alloc ?_ _)); refine blk_far ?_ NB223_245.out _; (with_reducible repeat (first | refine blk_drewN ?_ _ | refine blk_drew ?_ | refine blk_alloc ?_ _)); refine blk_far ?_ NB223_245.out _; (with_reducible repeat (first | refine blk_drewN ?_ _ | refine blk_drew ?_ | refine blk_alloc ?_ _)); refine blk_far ?_ NB223_245.out _; (with_reducible repeat (first | refine blk_drewN ?_ _ | refine blk_drew ?_ | refine blk_alloc ?_ _)); exact BK223.out⟩, ⟨by (with_reducible repeat (first | refine blk_drewN ?_ _ | refine blk_drew ?_ | refine blk_alloc ?_ _)); refine blk_far ?_ NB234_246.out _; (with_reducible repeat (first | refine blk_drewN ?_ _ | refine blk_drew ?_ | refine blk_alloc ?_ _)); refine blk_far ?_ NB234_246.out _; (with_reducible repeat (first | refine blk_drewN ?_ _ | refine blk_drew ?_ | refine blk_alloc ?_ _)); refine blk_far ?_ NB234_245.out _; (with_reducible repeat (first | refine blk_drewN ?_ _ | refine blk_drew ?_ | refine blk_alloc ?_ _)); refine blk_far ?_ NB234_245.out _; (with_reducible repeat (first | refine blk_drewN ?_ _ | refine blk_drew ?_ | refine blk_alloc ?_ _)); refine blk_far ?_ NB234_245.out _; (with_reducible repeat (first | refine blk_drewN ?_ _ | refine blk_drew ?_ | refine blk_alloc ?_ _)); exact BK234.out⟩, ⟨by (with_reducible repeat (first | refine blk_drewN ?_ _ | refine blk_drew ?_ | refine blk_alloc ?_ _)); refine blk_far ?_ NB245_246.out _; (with_reducible repeat (first | refine blk_drewN ?_ _ | refine blk_drew ?_ | refine blk_alloc ?_ _)); refine blk_far ?_ NB245_246.out _; (with_reducible repeat (first | refine blk_drewN ?_ _ | refine blk_drew ?_ | refine blk_alloc ?_ _)); refine blk_put (cs := #[.int .i64 t235, .int .u64 t236, .slice none 0 0]) ?_ 2 _ rfl; (with_reducible repeat (first | refine blk_drewN ?_ _ | refine blk_drew ?_ | refine blk_alloc ?_ _)); refine blk_put (cs := #[.int .i64 t235, .int .u64 0, .slice none 0 0]) ?_ 1 _ rfl; (with_reducible repeat (first | refine blk_drewN ?_ _ | refine blk_drew ?_ | refine blk_alloc ?_ _)); refine blk_put (cs := #[.int .i64 0, .int .u64 0, .slice none 0 0]) ?_ 0 _ rfl; (with_reducible repeat (first | refine blk_drewN ?_ _ | refine blk_drew ?_ | refine blk_alloc ?_ _)); exact BK245.out⟩, ⟨by (with_reducible repeat (first | refine blk_drewN ?_ _ | refine blk_drew ?_ | refine blk_alloc ?_ _)); refine blk_put (cs := #[.slice Ao37 t240.length co37, .int .i64 0]) ?_ 1 _ rfl; (with_reducible repeat (first | refine blk_drewN ?_ _ | refine blk_drew ?_ | refine blk_alloc ?_ _)); refine blk_put (cs := #[.slice none 0 0, .int .i64 0]) ?_ 0 _ rfl; (with_reducible repeat (first | refine blk_drewN ?_ _ | refine blk_drew ?_ | refine blk_alloc ?_ _)); refine blk_far ?_ NB246_245.out _; (with_reducible repeat (first | refine blk_drewN ?_ _ | refine blk_drew ?_ | refine blk_alloc ?_ _)); refine blk_far ?_ NB246_245.out _; (with_reducible repeat (first | refine blk_drewN ?_ _ | refine blk_drew ?_ | refine blk_alloc ?_ _)); refine blk_far ?_ NB246_245.out _; (with_reducible repeat (first | refine blk_drewN ?_ _ | refine blk_drew ?_ | refine blk_alloc ?_ _)); exact BK246.out⟩, ⟨by repeat (first | (with_reducible first | exact HB.out | apply below_alloc | apply pw_below_drewN | apply below_drew1 | refine below_set ?_ GE223.out | refine below_set ?_ GE234.out | refine below_set ?_ GE245.out | refine below_set ?_ GE246.out) | exact HB.out)⟩⟩
              · rw [if_neg c43] at H
                have c43b0 : ((t237.length : Int) == (wrap64 (1 + (wrap64 (Int.tmod a0 8))))) = false := beq_eq_false_iff_ne.mpr c43
                have c43b1 : ((t237.length : Int) != (wrap64 (1 + (wrap64 (Int.tmod a0 8))))) = true := bne_iff_ne.mpr c43
                have H' := Aside0.mk H
                clear H
                have hnb51 := NB245_223.out
                have hnc51 := NB223_245.out
                have hnb52 := NB245_234.out
                have hnc52 := NB234_245.out
                have hnb53 := NB245_246.out
                have hnc53 := NB246_245.out
                have hcz54_0 : w31.cell? ⟨gb245, 0, none⟩ = some (.int .i64 0) := (blk_cell BK245.out 0).trans rfl
                have hcz54_1 : w31.cell? ⟨gb245, 1, none⟩ = some (.int .u64 0) := (blk_cell BK245.out 1).trans rfl
                have hcz54_2 : w31.cell? ⟨gb245, 2, none⟩ = some (.slice none 0 0) := (blk_cell BK245.out 2).trans rfl
                have hfz54_0 := blk_frozen BK245.out 0
                have hfz54_1 := blk_frozen BK245.out 1
                have hfz54_2 := blk_frozen BK245.out 2
                go_wp2
                go_meet
                case rel => exact ⟨_, (true), (by first | rfl | (simp; done) | (simp [*]; done)), H', ⟨by have := HJ3.out; first | omega | exact Nat.le_refl _⟩, ⟨by (with_reducible repeat (first | apply Kd.V_alloc | apply Kd.V_drewN | apply Kd.V_drew)); exact Kd.V_mono (Kd.V_far (p := ⟨gb246, 1, none⟩) (Kd.V_far (p := ⟨gb246, 0, none⟩) (Kd.V_far (p := ⟨gb245, 2, none⟩) (Kd.V_far (p := ⟨gb245, 1, none⟩) (Kd.V_far (p := ⟨gb245, 0, none⟩) (Kd.V_mono (Kd.V_mono HO228.out (fun k_ hk => (⟨hk, hk.1.2⟩ : _ ∧ k_ ≠ gb245))) (fun k_ hk => (⟨hk, hk.1.2⟩ : _ ∧ k_ ≠ gb246))) (fun _ hk => hk.1.2) (.int .i64 t235)) (fun _ hk => hk.1.2) (.int .u64 t236)) (fun _ hk => hk.1.2) (.slice Ao36 t237.length co36)) (fun _ hk => hk.2) (.slice Ao37 t240.length co37)) (fun _ hk => hk.2) (.int .i64 t243)) (fun _ hk => ⟨hk.1.1.1.1.1, ⟨hk.1.1.1.1.2, ⟨hk.1.1.1.2, hk.1.1.2⟩⟩⟩)⟩, ⟨by (with_reducible repeat (first | apply Kd.V_alloc | apply Kd.V_drewN | apply Kd.V_drew)); exact Kd.V_mono (Kd.V_far (p := ⟨gb246, 1, none⟩) (Kd.V_far (p := ⟨gb246, 0, none⟩) (Kd.V_far (p := ⟨gb245, 2, none⟩) (Kd.V_far (p := ⟨gb245, 1, none⟩) (Kd.V_far (p := ⟨gb245, 0, none⟩) (Kd.V_mono (Kd.V_mono HO231.out (fun k_ hk => (⟨hk, hk.1.2⟩ : _ ∧ k_ ≠ gb245))) (fun k_ hk => (⟨hk, hk.1.2⟩ : _ ∧ k_ ≠ gb246))) (fun _ hk => hk.1.2) (.int .i64 t235)) (fun _ hk => hk.1.2) (.int .u64 t236)) (fun _ hk => hk.1.2) (.slice Ao36 t237.length co36)) (fun _ hk => hk.2) (.slice Ao37 t240.length co37)) (fun _ hk => hk.2) (.int .i64 t243)) (fun _ hk => ⟨hk.1.1.1.1.1, ⟨hk.1.1.1.1.2, ⟨hk.1.1.1.2, hk.1.1.2⟩⟩⟩)⟩, ⟨by (with_reducible repeat (first | apply Kd.V_alloc | apply Kd.V_drewN | apply Kd.V_drew)); exact Kd.V_mono (Kd.V_far (p := ⟨gb246, 1, none⟩) (Kd.V_far (p := ⟨gb246, 0, none⟩) (Kd.V_far (p := ⟨gb245, 2, none⟩) (Kd.V_far (p := ⟨gb245, 1, none⟩) (Kd.V_far (p := ⟨gb245, 0, none⟩) (Kd.V_mono (Kd.V_mono HO239.out (fun k_ hk => (⟨hk, hk.1.2⟩ : _ ∧ k_ ≠ gb245))) (fun k_ hk => (⟨hk, hk.1.2⟩ : _ ∧ k_ ≠ gb246))) (fun _ hk => hk.1.2) (.int .i64 t235)) (fun _ hk => hk.1.2) (.int .u64 t236)) (fun _ hk => hk.1.2) (.slice Ao36 t237.length co36)) (fun _ hk => hk.2) (.slice Ao37 t240.length co37)) (fun _ hk => hk.2) (.int .i64 t243)) (fun _ hk => ⟨hk.1.1.1.1.1, ⟨hk.1.1.1.1.2, ⟨hk.1.1.1.2, hk.1.1.2⟩⟩⟩)⟩, ⟨by (with_reducible repeat (first | apply Kd.V_alloc | apply Kd.V_drewN | apply Kd.V_drew)); exact Kd.V_mono (Kd.V_far (p := ⟨gb246, 1, none⟩) (Kd.V_far (p := ⟨gb246, 0, none⟩) (Kd.V_far (p := ⟨gb245, 2, none⟩) (Kd.V_far (p := ⟨gb245, 1, none⟩) (Kd.V_far (p := ⟨gb245, 0, none⟩) (Kd.V_mono (Kd.V_mono HO242.out (fun k_ hk => (⟨hk, hk.1.2⟩ : _ ∧ k_ ≠ gb245))) (fun k_ hk => (⟨hk, hk.1.2⟩ : _ ∧ k_ ≠ gb246))) (fun _ hk => hk.1.2) (.int .i64 t235)) (fun _ hk => hk.1.2) (.int .u64 t236)) (fun _ hk => hk.1.2) (.slice Ao36 t237.length co36)) (fun _ hk => hk.2) (.slice Ao37 t240.length co37)) (fun _ hk => hk.2) (.int .i64 t243)) (fun _ hk => ⟨hk.1.1.1.1.1, ⟨hk.1.1.1.1.2, ⟨hk.1.1.1.2, hk.1.1.2⟩⟩⟩)⟩, ⟨by (with_reducible repeat (first | refine blk_drewN ?_ _ | refine blk_drew ?_ | refine blk_alloc ?_ _)); refine blk_far ?_ NB223_246.out _; (with_reducible repeat (first | refine blk_drewN ?_ _ | refine blk_drew ?_ | refine blk_alloc ?_ _)); refine blk_far ?_ NB223_246.out _; (with_reducible repeat (first | refine blk_drewN ?_ _ | refine blk_drew ?_ | refine blk_alloc ?_ _)); refine blk_far ?_ NB223_245.out _; (with_reducible repeat (first | refine blk_drewN ?_ _ | refine blk_drew ?_ | refine blk_alloc ?_ _)); refine blk_far ?_ NB223_245.out _; (with_reducible repeat (first | refine blk_drewN ?_ _ | refine blk_drew ?_ | refine blk_alloc ?_ _)); refine blk_far ?_ NB223_245.out _; (with_reducible repeat (first | refine blk_drewN ?_ _ | refine blk_drew ?_ | refine blk_alloc ?_ _)); exact BK223.out⟩, ⟨by (with_reducible repeat (first | refine blk_drewN ?_ _ | refine blk_drew ?_ | refine blk_alloc ?_ _)); refine blk_far ?_ NB234_246.out _; (with_reducible repeat (first | refine blk_drewN ?_ _ | refine blk_drew ?_ | refine blk_alloc ?_ _)); refine blk_far ?_ NB234_246.out _; (with_reducible repeat (first | refine blk_drewN ?_ _ | refine blk_drew ?_ | refine blk_alloc ?_ _)); refine blk_far ?_ NB234_245.out _; (with_reducible repeat (first | refine blk_drewN ?_ _ | refine blk_drew ?_ | refine blk_alloc ?_ _)); refine blk_far ?_ NB234_245.out _; (with_reducible repeat (first | refine blk_drewN ?_ _ | refine blk_drew ?_ | refine blk_alloc ?_ _)); refine blk_far ?_ NB234_245.out _; (with_reducible repeat (first | refine blk_drewN ?_ _ | refine blk_drew ?_ | refine blk_alloc ?_ _)); exact BK234.out⟩, ⟨by (with_reducible repeat (first | refine blk_drewN ?_ _ | refine blk_drew ?_ | refine blk_alloc ?_ _)); refine blk_far ?_ NB245_246.out _; (with_reducible repeat (first | refine blk_drewN ?_ _ | refine blk_drew ?_ | refine blk_alloc ?_ _)); refine blk_far ?_ NB245_246.out _; (with_reducible repeat (first | refine blk_drewN ?_ _ | refine blk_drew ?_ | refine blk_alloc ?_ _)); refine blk_put (cs := #[.int .i64 t235, .int .u64 t236, .slice none 0 0]) ?_ 2 _ rfl; (with_reducible repeat (first | refine blk_drewN ?_ _ | refine blk_drew ?_ | refine blk_alloc ?_ _)); refine blk_put (cs := #[.int .i64 t235, .int .u64 0, .slice none 0 0]) ?_ 1 _ rfl; (with_reducible repeat (first | refine blk_drewN ?_ _ | refine blk_drew ?_ | refine blk_alloc ?_ _)); refine blk_put (cs := #[.int .i64 0, .int .u64 0, .slice none 0 0]) ?_ 0 _ rfl; (with_reducible repeat (first | refine blk_drewN ?_ _ | refine blk_drew ?_ | refine blk_alloc ?_ _)); exact BK245.out⟩, ⟨by (with_reducible repeat (first | refine blk_drewN ?_ _ | refine blk_drew ?_ | refine blk_alloc ?_ _)); refine blk_put (cs := #[.slice Ao37 t240.length co37, .int .i64 0]) ?_ 1 _ rfl; (with_reducible repeat (first | refine blk_drewN ?_ _ | refine blk_drew ?_ | refine blk_alloc ?_ _)); refine blk_put (cs := #[.slice none 0 0, .int .i64 0]) ?_ 0 _ rfl; (with_reducible repeat (first | refine blk_drewN ?_ _ | refine blk_drew ?_ | refine blk_alloc ?_ _)); refine blk_far ?_ NB246_245.out _; (with_reducible repeat (first | refine blk_drewN ?_ _ | refine blk_drew ?_ | refine blk_alloc ?_ _)); refine blk_far ?_ NB246_245.out _; (with_reducible repeat (first | refine blk_drewN ?_ _ | refine blk_drew ?_ | refine blk_alloc ?_ _)); refine blk_far ?_ NB246_245.out _; (with_reducible repeat (first | refine blk_drewN ?_ _ | refine blk_drew ?_ | refine blk_alloc ?_ _)); exact BK246.out⟩, ⟨by repeat (first | (with_reducible first | exact HB.out | apply below_alloc | apply pw_below_drewN | apply below_drew1 | refine below_set ?_ GE223.out | refine below_set ?_ GE234.out | refine below_set ?_ GE245.out | refine below_set ?_ GE246.out) | exact HB.out)⟩⟩
            · rw [if_neg c42] at H
              have c42b0 : (t244 == 0) = false := beq_eq_false_iff_ne.mpr c42
              have c42b1 : (t244 != 0) = true := bne_iff_ne.mpr c42
              have H' := Aside0.mk H
              clear H
              go_wp2
              go_meet
              case rel => exact ⟨_, (true), (by first | rfl | (simp; done) | (simp [*]; done)), H', ⟨by have := HJ3.out; first | omega | exact Nat.le_refl _⟩, ⟨by (with_reducible repeat (first | apply Kd.V_alloc | apply Kd.V_drewN | apply Kd.V_drew)); exact Kd.V_mono (Kd.V_far (p := ⟨gb246, 1, none⟩) (Kd.V_far (p := ⟨gb246, 0, none⟩) (Kd.V_far (p := ⟨gb245, 2, none⟩) (Kd.V_far (p := ⟨gb245, 1, none⟩) (Kd.V_far (p := ⟨gb245, 0, none⟩) (Kd.V_mono (Kd.V_mono HO228.out (fun k_ hk => (⟨hk, hk.1.2⟩ : _ ∧ k_ ≠ gb245))) (fun k_ hk => (⟨hk, hk.1.2⟩ : _ ∧ k_ ≠ gb246))) (fun _ hk => hk.1.2) (.int .i64 t235)) (fun _ hk => hk.1.2) (.int .u64 t236)) (fun _ hk => hk.1.2) (.slice Ao36 t237.length co36)) (fun _ hk => hk.2) (.slice Ao37 t240.length co37)) (fun _ hk => hk.2) (.int .i64 t243)) (fun _ hk => ⟨hk.1.1.1.1.1, ⟨hk.1.1.1.1.2, ⟨hk.1.1.1.2, hk.1.1.2⟩⟩⟩)⟩, ⟨by (with_reducible repeat (first | apply Kd.V_alloc | apply Kd.V_drewN | apply Kd.V_drew)); exact Kd.V_mono (Kd.V_far (p := ⟨gb246, 1, none⟩) (Kd.V_far (p := ⟨gb246, 0, none⟩) (Kd.V_far (p := ⟨gb245, 2, none⟩) (Kd.V_far (p := ⟨gb245, 1, none⟩) (Kd.V_far (p := ⟨gb245, 0, none⟩) (Kd.V_mono (Kd.V_mono HO231.out (fun k_ hk => (⟨hk, hk.1.2⟩ : _ ∧ k_ ≠ gb245))) (fun k_ hk => (⟨hk, hk.1.2⟩ : _ ∧ k_ ≠ gb246))) (fun _ hk => hk.1.2) (.int .i64 t235)) (fun _ hk => hk.1.2) (.int .u64 t236)) (fun _ hk => hk.1.2) (.slice Ao36 t237.length co36)) (fun _ hk => hk.2) (.slice Ao37 t240.length co37)) (fun _ hk => hk.2) (.int .i64 t243)) (fun _ hk => ⟨hk.1.1.1.1.1, ⟨hk.1.1.1.1.2, ⟨hk.1.1.1.2, hk.1.1.2⟩⟩⟩)⟩, ⟨by (with_reducible repeat (first | apply Kd.V_alloc | apply Kd.V_drewN | apply Kd.V_drew)); exact Kd.V_mono (Kd.V_far (p := ⟨gb246, 1, none⟩) (Kd.V_far (p := ⟨gb246, 0, none⟩) (Kd.V_far (p := ⟨gb245, 2, none⟩) (Kd.V_far (p := ⟨gb245, 1, none⟩) (Kd.V_far (p := ⟨gb245, 0, none⟩) (Kd.V_mono (Kd.V_mono HO239.out (fun k_ hk => (⟨hk, hk.1.2⟩ : _ ∧ k_ ≠ gb245))) (fun k_ hk => (⟨hk, hk.1.2⟩ : _ ∧ k_ ≠ gb246))) (fun _ hk => hk.1.2) (.int .i64 t235)) (fun _ hk => hk.1.2) (.int .u64 t236)) (fun _ hk => hk.1.2) (.slice Ao36 t237.length co36)) (fun _ hk => hk.2) (.slice Ao37 t240.length co37)) (fun _ hk => hk.2) (.int .i64 t243)) (fun _ hk => ⟨hk.1.1.1.1.1, ⟨hk.1.1.1.1.2, ⟨hk.1.1.1.2, hk.1.1.2⟩⟩⟩)⟩, ⟨by (with_reducible repeat (first | apply Kd.V_alloc | apply Kd.V_drewN | apply Kd.V_drew)); exact Kd.V_mono (Kd.V_far (p := ⟨gb246, 1, none⟩) (Kd.V_far (p := ⟨gb246, 0, none⟩) (Kd.V_far (p := ⟨gb245, 2, none⟩) (Kd.V_far (p := ⟨gb245, 1, none⟩) (Kd.V_far (p := ⟨gb245, 0, none⟩) (Kd.V_mono (Kd.V_mono HO242.out (fun k_ hk => (⟨hk, hk.1.2⟩ : _ ∧ k_ ≠ gb245))) (fun k_ hk => (⟨hk, hk.1.2⟩ : _ ∧ k_ ≠ gb246))) (fun _ hk => hk.1.2) (.int .i64 t235)) (fun _ hk => hk.1.2) (.int .u64 t236)) (fun _ hk => hk.1.2) (.slice Ao36 t237.length co36)) (fun _ hk => hk.2) (.slice Ao37 t240.length co37)) (fun _ hk => hk.2) (.int .i64 t243)) (fun _ hk => ⟨hk.1.1.1.1.1, ⟨hk.1.1.1.1.2, ⟨hk.1.1.1.2, hk.1.1.2⟩⟩⟩)⟩, ⟨by (with_reducible repeat (first | refine blk_drewN ?_ _ | refine blk_drew ?_ | refine blk_alloc ?_ _)); refine blk_far ?_ NB223_246.out _; (with_reducible repeat (first | refine blk_drewN ?_ _ | refine blk_drew ?_ | refine blk_alloc ?_ _)); refine blk_far ?_ NB223_246.out _; (with_reducible repeat (first | refine blk_drewN ?_ _ | refine blk_drew ?_ | refine blk_alloc ?_ _)); refine blk_far ?_ NB223_245.out _; (with_reducible repeat (first | refine blk_drewN ?_ _ | refine blk_drew ?_ | refine blk_alloc ?_ _)); refine blk_far ?_ NB223_245.out _; (with_reducible repeat (first | refine blk_drewN ?_ _ | refine blk_drew ?_ | refine blk_alloc ?_ _)); refine blk_far ?_ NB223_245.out _; (with_reducible repeat (first | refine blk_drewN ?_ _ | refine blk_drew ?_ | refine blk_alloc ?_ _)); exact BK223.out⟩, ⟨by (with_reducible repeat (first | refine blk_drewN ?_ _ | refine blk_drew ?_ | refine blk_alloc ?_ _)); refine blk_far ?_ NB234_246.out _; (with_reducible repeat (first | refine blk_drewN ?_ _ | refine blk_drew ?_ | refine blk_alloc ?_ _)); refine blk_far ?_ NB234_246.out _; (with_reducible repeat (first | refine blk_drewN ?_ _ | refine blk_drew ?_ | refine blk_alloc ?_ _)); refine blk_far ?_ NB234_245.out _; (with_reducible repeat (first | refine blk_drewN ?_ _ | refine blk_drew ?_ | refine blk_alloc ?_ _)); refine blk_far ?_ NB234_245.out _; (with_reducible repeat (first | refine blk_drewN ?_ _ | refine blk_drew ?_ | refine blk_alloc ?_ _)); refine blk_far ?_ NB234_245.out _; (with_reducible repeat (first | refine blk_drewN ?_ _ | refine blk_drew ?_ | refine blk_alloc ?_ _)); exact BK234.out⟩, ⟨by (with_reducible repeat (first | refine blk_drewN ?_ _ | refine blk_drew ?_ | refine blk_alloc ?_ _)); refine blk_far ?_ NB245_246.out _; (with_reducible repeat (first | refine blk_drewN ?_ _ | refine blk_drew ?_ | refine blk_alloc ?_ _)); refine blk_far ?_ NB245_246.out _; (with_reducible repeat (first | refine blk_drewN ?_ _ | refine blk_drew ?_ | refine blk_alloc ?_ _)); refine blk_put (cs := #[.int .i64 t235, .int .u64 t236, .slice none 0 0]) ?_ 2 _ rfl; (with_reducible repeat (first | refine blk_drewN ?_ _ | refine blk_drew ?_ | refine blk_alloc ?_ _)); refine blk_put (cs := #[.int .i64 t235, .int .u64 0, .slice none 0 0]) ?_ 1 _ rfl; (with_reducible repeat (first | refine blk_drewN ?_ _ | refine blk_drew ?_ | refine blk_alloc ?_ _)); refine blk_put (cs := #[.int .i64 0, .int .u64 0, .slice none 0 0]) ?_ 0 _ rfl; (with_reducible repeat (first | refine blk_drewN ?_ _ | refine blk_drew ?_ | refine blk_alloc ?_ _)); exact BK245.out⟩, ⟨by (with_reducible repeat (first | refine blk_drewN ?_ _ | refine blk_drew ?_ | refine blk_alloc ?_ _)); refine blk_put (cs := #[.slice Ao37 t240.length co37, .int .i64 0]) ?_ 1 _ rfl; (with_reducible repeat (first | refine blk_drewN ?_ _ | refine blk_drew ?_ | refine blk_alloc ?_ _)); refine blk_put (cs := #[.slice none 0 0, .int .i64 0]) ?_ 0 _ rfl; (with_reducible repeat (first | refine blk_drewN ?_ _ | refine blk_drew ?_ | refine blk_alloc ?_ _)); refine blk_far ?_ NB246_245.out _; (with_reducible repeat (first | refine blk_drewN ?_ _ | refine blk_drew ?_ | refine blk_alloc ?_ _)); refine blk_far ?_ NB246_245.out _; (with_reducible repeat (first | refine blk_drewN ?_ _ | refine blk_drew ?_ | refine blk_alloc ?_ _)); refine blk_far ?_ NB246_245.out _; (with_reducible repeat (first | refine blk_drewN ?_ _ | refine blk_drew ?_ | refine blk_alloc ?_ _)); exact BK246.out⟩, ⟨by repeat (first | (with_reducible first | exact HB.out | apply below_alloc | apply pw_below_drewN | apply below_drew1 | refine below_set ?_ GE223.out | refine below_set ?_ GE234.out | refine below_set ?_ GE245.out | refine below_set ?_ GE246.out) | exact HB.out)⟩⟩
          · rw [if_neg c41] at H
            have c41b0 : (t233 == 0) = false := beq_eq_false_iff_ne.mpr c41
            have c41b1 : (t233 != 0) = true := bne_iff_ne.mpr c41
            (first | rw [c41b0] | (simp only [i64_w, i32_w]; rw [c41b0]) | skip)
            have H' := Aside0.mk H
            clear H
            go_wp2
            go_meet
            case rel => exact ⟨_, (true), (by first | rfl | (simp; done) | (simp [*]; done)), H', ⟨by have := HJ3.out; first | omega | exact Nat.le_refl _⟩, ⟨by (with_reducible repeat (first | apply Kd.V_alloc | apply Kd.V_drewN | apply Kd.V_drew)); exact Kd.V_mono (Kd.V_far (p := ⟨gb246, 1, none⟩) (Kd.V_far (p := ⟨gb246, 0, none⟩) (Kd.V_far (p := ⟨gb245, 2, none⟩) (Kd.V_far (p := ⟨gb245, 1, none⟩) (Kd.V_far (p := ⟨gb245, 0, none⟩) (Kd.V_mono (Kd.V_mono HO228.out (fun k_ hk => (⟨hk, hk.1.2⟩ : _ ∧ k_ ≠ gb245))) (fun k_ hk => (⟨hk, hk.1.2⟩ : _ ∧ k_ ≠ gb246))) (fun _ hk => hk.1.2) (.int .i64 t235)) (fun _ hk => hk.1.2) (.int .u64 t236)) (fun _ hk => hk.1.2) (.slice Ao36 t237.length co36)) (fun _ hk => hk.2) (.slice Ao37 t240.length co37)) (fun _ hk => hk.2) (.int .i64 t243)) (fun _ hk => ⟨hk.1.1.1.1.1, ⟨hk.1.1.1.1.2, ⟨hk.1.1.1.2, hk.1.1.2⟩⟩⟩)⟩, ⟨by (with_reducible repeat (first | apply Kd.V_alloc | apply Kd.V_drewN | apply Kd.V_drew)); exact Kd.V_mono (Kd.V_far (p := ⟨gb246, 1, none⟩) (Kd.V_far (p := ⟨gb246, 0, none⟩) (Kd.V_far (p := ⟨gb245, 2, none⟩) (Kd.V_far (p := ⟨gb245, 1, none⟩) (Kd.V_far (p := ⟨gb245, 0, none⟩) (Kd.V_mono (Kd.V_mono HO231.out (fun k_ hk => (⟨hk, hk.1.2⟩ : _ ∧ k_ ≠ gb245))) (fun k_ hk => (⟨hk, hk.1.2⟩ : _ ∧ k_ ≠ gb246))) (fun _ hk => hk.1.2) (.int .i64 t235)) (fun _ hk => hk.1.2) (.int .u64 t236)) (fun _ hk => hk.1.2) (.slice Ao36 t237.length co36)) (fun _ hk => hk.2) (.slice Ao37 t240.length co37)) (fun _ hk => hk.2) (.int .i64 t243)) (fun _ hk => ⟨hk.1.1.1.1.1, ⟨hk.1.1.1.1.2, ⟨hk.1.1.1.2, hk.1.1.2⟩⟩⟩)⟩, ⟨by (with_reducible repeat (first | apply Kd.V_alloc | apply Kd.V_drewN | apply Kd.V_drew)); exact Kd.V_mono (Kd.V_far (p := ⟨gb246, 1, none⟩) (Kd.V_far (p := ⟨gb246, 0, none⟩) (Kd.V_far (p := ⟨gb245, 2, none⟩) (Kd.V_far (p := ⟨gb245, 1, none⟩) (Kd.V_far (p := ⟨gb245, 0, none⟩) (Kd.V_mono (Kd.V_mono HO239.out (fun k_ hk => (⟨hk, hk.1.2⟩ : _ ∧ k_ ≠ gb245))) (fun k_ hk => (⟨hk, hk.1.2⟩ : _ ∧ k_ ≠ gb246))) (fun _ hk => hk.1.2) (.int .i64 t235)) (fun _ hk => hk.1.2) (.int .u64 t236)) (fun _ hk => hk.1.2) (.slice Ao36 t237.length co36)) (fun _ hk => hk.2) (.slice Ao37 t240.length co37)) (fun _ hk => hk.2) (.int .i64 t243)) (fun _ hk => ⟨hk.1.1.1.1.1, ⟨hk.1.1.1.1.2, ⟨hk.1.1.1.2, hk.1.1.2⟩⟩⟩)⟩, ⟨by (with_reducible repeat (first | apply Kd.V_alloc | apply Kd.V_drewN | apply Kd.V_drew)); exact Kd.V_mono (Kd.V_far (p := ⟨gb246, 1, none⟩) (Kd.V_far (p := ⟨gb246, 0, none⟩) (Kd.V_far (p := ⟨gb245, 2, none⟩) (Kd.V_far (p := ⟨gb245, 1, none⟩) (Kd.V_far (p := ⟨gb245, 0, none⟩) (Kd.V_mono (Kd.V_mono HO242.out (fun k_ hk => (⟨hk, hk.1.2⟩ : _ ∧ k_ ≠ gb245))) (fun k_ hk => (⟨hk, hk.1.2⟩ : _ ∧ k_ ≠ gb246))) (fun _ hk => hk.1.2) (.int .i64 t235)) (fun _ hk => hk.1.2) (.int .u64 t236)) (fun _ hk => hk.1.2) (.slice Ao36 t237.length co36)) (fun _ hk => hk.2) (.slice Ao37 t240.length co37)) (fun _ hk => hk.2) (.int .i64 t243)) (fun _ hk => ⟨hk.1.1.1.1.1, ⟨hk.1.1.1.1.2, ⟨hk.1.1.1.2, hk.1.1.2⟩⟩⟩)⟩, ⟨by (with_reducible repeat (first | refine blk_drewN ?_ _ | refine blk_drew ?_ | refine blk_alloc ?_ _)); refine blk_far ?_ NB223_246.out _; (with_reducible repeat (first | refine blk_drewN ?_ _ | refine blk_drew ?_ | refine blk_alloc ?_ _)); refine blk_far ?_ NB223_246.out _; (with_reducible repeat (first | refine blk_drewN ?_ _ | refine blk_drew ?_ | refine blk_alloc ?_ _)); refine blk_far ?_ NB223_245.out _; (with_reducible repeat (first | refine blk_drewN ?_ _ | refine blk_drew ?_ | refine blk_alloc ?_ _)); refine blk_far ?_ NB223_245.out _; (with_reducible repeat (first | refine blk_drewN ?_ _ | refine blk_drew ?_ | refine blk_alloc ?_ _)); refine blk_far ?_ NB223_245.out _; (with_reducible repeat (first | refine blk_drewN ?_ _ | refine blk_drew ?_ | refine blk_alloc ?_ _)); exact BK223.out⟩, ⟨by (with_reducible repeat (first | refine blk_drewN ?_ _ | refine blk_drew ?_ | refine blk_alloc ?_ _)); refine blk_far ?_ NB234_246.out _; (with_reducible repeat (first | refine blk_drewN ?_ _ | refine blk_drew ?_ | refine blk_alloc ?_ _)); refine blk_far ?_ NB234_246.out _; (with_reducible repeat (first | refine blk_drewN ?_ _ | refine blk_drew ?_ | refine blk_alloc ?_ _)); refine blk_far ?_ NB234_245.out _; (with_reducible repeat (first | refine blk_drewN ?_ _ | refine blk_drew ?_ | refine blk_alloc ?_ _)); refine blk_far ?_ NB234_245.out _; (with_reducible repeat (first | refine blk_drewN ?_ _ | refine blk_drew ?_ | refine blk_alloc ?_ _)); refine blk_far ?_ NB234_245.out _; (with_reducible repeat (first | refine blk_drewN ?_ _ | refine blk_drew ?_ | refine blk_alloc ?_ _)); exact BK234.out⟩, ⟨by (with_reducible repeat (first | refine blk_drewN ?_ _ | refine blk_drew ?_ | refine blk_alloc ?_ _)); refine blk_far ?_ NB245_246.out _; (with_reducible repeat (first | refine blk_drewN ?_ _ | refine blk_drew ?_ | refine blk_alloc ?_ _)); refine blk_far ?_ NB245_246.out _; (with_reducible repeat (first | refine blk_drewN ?_ _ | refine blk_drew ?_ | refine blk_alloc ?_ _)); refine blk_put (cs := #[.int .i64 t235, .int .u64 t236, .slice none 0 0]) ?_ 2 _ rfl; (with_reducible repeat (first | refine blk_drewN ?_ _ | refine blk_drew ?_ | refine blk_alloc ?_ _)); refine blk_put (cs := #[.int .i64 t235, .int .u64 0, .slice none 0 0]) ?_ 1 _ rfl; (with_reducible repeat (first | refine blk_drewN ?_ _ | refine blk_drew ?_ | refine blk_alloc ?_ _)); refine blk_put (cs := #[.int .i64 0, .int .u64 0, .slice none 0 0]) ?_ 0 _ rfl; (with_reducible repeat (first | refine blk_drewN ?_ _ | refine blk_drew ?_ | refine blk_alloc ?_ _)); exact BK245.out⟩, ⟨by (with_reducible repeat (first | refine blk_drewN ?_ _ | refine blk_drew ?_ | refine blk_alloc ?_ _)); refine blk_put (cs := #[.slice Ao37 t240.length co37, .int .i64 0]) ?_ 1 _ rfl; (with_reducible repeat (first | refine blk_drewN ?_ _ | refine blk_drew ?_ | refine blk_alloc ?_ _)); refine blk_put (cs := #[.slice none 0 0, .int .i64 0]) ?_ 0 _ rfl; (with_reducible repeat (first | refine blk_drewN ?_ _ | refine blk_drew ?_ | refine blk_alloc ?_ _)); refine blk_far ?_ NB246_245.out _; (with_reducible repeat (first | refine blk_drewN ?_ _ | refine blk_drew ?_ | refine blk_alloc ?_ _)); refine blk_far ?_ NB246_245.out _; (with_reducible repeat (first | refine blk_drewN ?_ _ | refine blk_drew ?_ | refine blk_alloc ?_ _)); refine blk_far ?_ NB246_245.out _; (with_reducible repeat (first | refine blk_drewN ?_ _ | refine blk_drew ?_ | refine blk_alloc ?_ _)); exact BK246.out⟩, ⟨by repeat (first | (with_reducible first | exact HB.out | apply below_alloc | apply pw_below_drewN | apply below_drew1 | refine below_set ?_ GE223.out | refine below_set ?_ GE234.out | refine below_set ?_ GE245.out | refine below_set ?_ GE246.out) | exact HB.out)⟩⟩
        case rest =>
          clear HC12
          try clear c1
          try clear c2
          try clear p2
          try clear c3
          try clear c4
          try clear c5
          try clear c5b0
          try clear c6
          try clear p6
          try clear c8
          try clear c9
          try clear c10
          try clear c21
          try clear c32
          try clear c33
          try clear c34
          try clear c38
          try clear c39
          try clear c41
          try clear c41b0
          try clear c41b1
          try clear c42
          try clear c42b0
          try clear c42b1
          try clear c43
          try clear c43b0
          try clear c43b1
          try clear c44
          try clear c45
          try clear c46
          try clear c48
          try clear c49
          try clear c51
          try clear c52
          try clear c53
          try clear hcz15_0
          try clear hcz15_1
          try clear hcz15_2
          try clear hcz18_0
          try clear hcz18_1
          try clear hcz18_2
          try clear hcz22_0
          try clear hcz22_1
          try clear hcz22_2
          try clear hcz26_0
          try clear hcz26_1
          try clear hcz28_0
          try clear hcz28_1
          try clear hcz28_2
          try clear hcz35_0
          try clear hcz35_1
          try clear hcz35_2
          try clear hcz40_0
          try clear hcz40_1
          try clear hcz47_0
          try clear hcz47_1
          try clear hcz47_2
          try clear hcz50_0
          try clear hcz50_1
          try clear hcz54_0
          try clear hcz54_1
          try clear hcz54_2
          try clear hfz15_0
          try clear hfz15_1
          try clear hfz15_2
          try clear hfz18_0
          try clear hfz18_1
          try clear hfz18_2
          try clear hfz22_0
          try clear hfz22_1
          try clear hfz22_2
          try clear hfz26_0
          try clear hfz26_1
          try clear hfz28_0
          try clear hfz28_1
          try clear hfz28_2
          try clear hfz35_0
          try clear hfz35_1
          try clear hfz35_2
          try clear hfz40_0
          try clear hfz40_1
          try clear hfz47_0
          try clear hfz47_1
          try clear hfz47_2
          try clear hfz50_0
          try clear hfz50_1
          try clear hfz54_0
          try clear hfz54_1
          try clear hfz54_2
          try clear p2
          obtain ⟨kq, x77_11, rfl, HA, HJ11, HO_224002, HO_235000, HO_246002, HO_247000, BK223, BK234, BK245, BK246, HB⟩ := hcut
          cases kq with
          | zero => exact absurd HA.out (by simp [samphirelaw17_SlotsPlaces.j1])
          | succ kj11 =>
            have H := HA.out
            clear HA
            simp only [samphirelaw17_SlotsPlaces.j1] at H
            by_cases c55 : x77_11 = true
            · subst c55
              have H1 : (some false) = some r := by rw [if_pos rfl] at H; exact H
              clear H
              have H := H1
              clear H1
              obtain rfl := Option.some.inj H
              go_wp2
              go_ret
              exact ⟨by first | rfl | (simp [errW_none, errW_some] <;> rfl) | (simp [*, errW_none, errW_some] <;> rfl), by repeat (first | (with_reducible first | exact HB.out | apply below_alloc | apply pw_below_drewN | apply below_drew1 | refine below_set ?_ GE223.out | refine below_set ?_ GE234.out | refine below_set ?_ GE245.out | refine below_set ?_ GE246.out) | exact HB.out)⟩
            · replace c55 := Bool.eq_false_iff.mpr c55
              subst c55
              have H1 : (samphirelaw17_SlotsPlaces.l0 kj11 l2 (IntKind.u64.wrap (1 + (IntKind.u64.wrap (Int.tmod a1 63)))) t237 (t237.length : Int) 0) = some r := by rw [if_neg (show ¬ (false = true) by decide)] at H; exact H
              clear H
              have H := H1
              clear H1
              have H' := Aside0.mk H
              clear H
              have hnb56 := NB245_223.out
              have hnc56 := NB223_245.out
              have hnb57 := NB245_234.out
              have hnc57 := NB234_245.out
              have hnb58 := NB245_246.out
              have hnc58 := NB246_245.out
              have hcz59_0 : wc.cell? ⟨gb245, 0, none⟩ = some (.int .i64 t235) := (blk_cell BK245.out 0).trans rfl
              have hcz59_1 : wc.cell? ⟨gb245, 1, none⟩ = some (.int .u64 t236) := (blk_cell BK245.out 1).trans rfl
              have hcz59_2 : wc.cell? ⟨gb245, 2, none⟩ = some (.slice Ao36 t237.length co36) := (blk_cell BK245.out 2).trans rfl
              have hfz59_0 := blk_frozen BK245.out 0
              have hfz59_1 := blk_frozen BK245.out 1
              have hfz59_2 := blk_frozen BK245.out 2
              go_wp2
              go_loopg [81] kj11 (fun kq v81 w' => ∃ (x81_3 : Int), v81 = .int .i64 x81_3 ∧ Aside0 (samphirelaw17_SlotsPlaces.l0 kq l2 (IntKind.u64.wrap (1 + (IntKind.u64.wrap (Int.tmod a1 63)))) t237 (t237.length : Int) x81_3 = some r) ∧ Aside0 (kq ≤ kj11) ∧ Aside0 (Kd.V Kd.string 9 w' w.heap.size (fun k_ => k_ ≠ gb223 ∧ k_ ≠ gb234 ∧ k_ ≠ gb245 ∧ k_ ≠ gb246) (.slice Ao36 t237.length co36) t237) ∧ Aside0 (Kd.V Kd.string 9 w' w.heap.size (fun k_ => k_ ≠ gb223 ∧ k_ ≠ gb234 ∧ k_ ≠ gb245 ∧ k_ ≠ gb246) (.slice Ao23 t226.length co23) t226) ∧ Aside0 (Kd.V (Kd.int .u64) 24 w' w.heap.size (fun k_ => k_ ≠ gb223 ∧ k_ ≠ gb234 ∧ k_ ≠ gb245 ∧ k_ ≠ gb246) (.slice Ao25 t229.length co25) t229) ∧ Aside0 (Kd.V Kd.string 9 w' w.heap.size (fun k_ => k_ ≠ gb223 ∧ k_ ≠ gb234 ∧ k_ ≠ gb245 ∧ k_ ≠ gb246) (.slice Ao36 t237.length co36) t237) ∧ Aside0 (Kd.V (Kd.int .u64) 24 w' w.heap.size (fun k_ => k_ ≠ gb223 ∧ k_ ≠ gb234 ∧ k_ ≠ gb245 ∧ k_ ≠ gb246) (.slice Ao37 t240.length co37) t240) ∧ Aside0 (w'.heap[gb223]? = some (.cells #[.int .i64 t224, .int .u64 t225, (.slice Ao23 t226.length co23)] 27 (0, 0))) ∧ Aside0 (w'.heap[gb234]? = some (.cells #[(.slice Ao25 t229.length co25), .int .i64 t232] 33 (0, 0))) ∧ Aside0 (w'.heap[gb245]? = some (.cells #[.int .i64 t235, .int .u64 t236, (.slice Ao36 t237.length co36)] 27 (0, 0))) ∧ Aside0 (w'.heap[gb246]? = some (.cells #[(.slice Ao37 t240.length co37), .int .i64 t243] 33 (0, 0))) ∧ Aside0 (Below w.heap.size w w'))
              case atStart => exact ⟨(0), (by first | rfl | (simp; done) | (simp [*]; done)), H', ⟨Nat.le_refl _⟩, ⟨by (with_reducible repeat (first | apply Kd.V_alloc | apply Kd.V_drewN | apply Kd.V_drew)); exact HO_246002.out⟩, ⟨by (with_reducible repeat (first | apply Kd.V_alloc | apply Kd.V_drewN | apply Kd.V_drew)); exact HO_224002.out⟩, ⟨by (with_reducible repeat (first | apply Kd.V_alloc | apply Kd.V_drewN | apply Kd.V_drew)); exact HO_235000.out⟩, ⟨by (with_reducible repeat (first | apply Kd.V_alloc | apply Kd.V_drewN | apply Kd.V_drew)); exact HO_246002.out⟩, ⟨by (with_reducible repeat (first | apply Kd.V_alloc | apply Kd.V_drewN | apply Kd.V_drew)); exact HO_247000.out⟩, ⟨by (with_reducible repeat (first | refine blk_drewN ?_ _ | refine blk_drew ?_ | refine blk_alloc ?_ _)); exact BK223.out⟩, ⟨by (with_reducible repeat (first | refine blk_drewN ?_ _ | refine blk_drew ?_ | refine blk_alloc ?_ _)); exact BK234.out⟩, ⟨by (with_reducible repeat (first | refine blk_drewN ?_ _ | refine blk_drew ?_ | refine blk_alloc ?_ _)); exact BK245.out⟩, ⟨by (with_reducible repeat (first | refine blk_drewN ?_ _ | refine blk_drew ?_ | refine blk_alloc ?_ _)); exact BK246.out⟩, ⟨by repeat (first | (with_reducible first | exact HB.out | apply below_alloc | apply pw_below_drewN | apply below_drew1 | refine below_set ?_ GE223.out | refine below_set ?_ GE234.out | refine below_set ?_ GE245.out | refine below_set ?_ GE246.out) | exact HB.out)⟩⟩
              case round =>
                clear H'
                try clear c1
                try clear c2
                try clear p2
                try clear c3
                try clear c4
                try clear c5
                try clear c5b0
                try clear c6
                try clear p6
                try clear c8
                try clear c9
                try clear c10
                try clear c21
                try clear c32
                try clear c33
                try clear c34
                try clear c38
                try clear c39
                try clear c41
                try clear c41b0
                try clear c41b1
                try clear c42
                try clear c42b0
                try clear c42b1
                try clear c43
                try clear c43b0
                try clear c43b1
                try clear c44
                try clear c45
                try clear c46
                try clear c48
                try clear c49
                try clear c51
                try clear c52
                try clear c53
                try clear c55
                try clear c56
                try clear c57
                try clear c58
                try clear hcz15_0
                try clear hcz15_1
                try clear hcz15_2
                try clear hcz18_0
                try clear hcz18_1
                try clear hcz18_2
                try clear hcz22_0
                try clear hcz22_1
                try clear hcz22_2
                try clear hcz26_0
                try clear hcz26_1
                try clear hcz28_0
                try clear hcz28_1
                try clear hcz28_2
                try clear hcz35_0
                try clear hcz35_1
                try clear hcz35_2
                try clear hcz40_0
                try clear hcz40_1
                try clear hcz47_0
                try clear hcz47_1
                try clear hcz47_2
                try clear hcz50_0
                try clear hcz50_1
                try clear hcz54_0
                try clear hcz54_1
                try clear hcz54_2
                try clear hcz59_0
                try clear hcz59_1
                try clear hcz59_2
                try clear hfz15_0
                try clear hfz15_1
                try clear hfz15_2
                try clear hfz18_0
                try clear hfz18_1
                try clear hfz18_2
                try clear hfz22_0
                try clear hfz22_1
                try clear hfz22_2
                try clear hfz26_0
                try clear hfz26_1
                try clear hfz28_0
                try clear hfz28_1
                try clear hfz28_2
                try clear hfz35_0
                try clear hfz35_1
                try clear hfz35_2
                try clear hfz40_0
                try clear hfz40_1
                try clear hfz47_0
                try clear hfz47_1
                try clear hfz47_2
                try clear hfz50_0
                try clear hfz50_1
                try clear hfz54_0
                try clear hfz54_1
                try clear hfz54_2
                try clear hfz59_0
                try clear hfz59_1
                try clear hfz59_2
                try clear p2
                try clear p6
                obtain ⟨x81_3, rfl, HA, HK3, HO_79, HO_224002, HO_235000, HO_246002, HO_247000, BK223, BK234, BK245, BK246, HB⟩ := hrel
                cases gk with
                | zero => exact absurd HA.out (by simp [samphirelaw17_SlotsPlaces.l0])
                | succ k3 =>
                  have H := HA.out
                  clear HA
                  simp only [samphirelaw17_SlotsPlaces.l0] at H
                  by_cases c60 : x81_3 < (t237.length : Int)
                  · rw [if_pos c60] at H
                    have c60b0 : decide (x81_3 < (t237.length : Int)) = true := decide_eq_true c60
                    clear c60
                    by_cases c61 : 0 ≤ x81_3
                    · rw [if_pos c61] at H
                      have c61b0 : decide (0 ≤ x81_3) = true := decide_eq_true c61
                      clear c61
                      by_cases c62 : x81_3 < (t237.length : Int)
                      · rw [if_pos c62] at H
                        have c62b0 : decide (x81_3 < (t237.length : Int)) = true := decide_eq_true c62
                        clear c62
                        by_cases c63 : x81_3 < (l2.length : Int)
                        · rw [if_pos c63] at H
                          have c63b0 : decide (x81_3 < (l2.length : Int)) = true := decide_eq_true c63
                          clear c63
                          by_cases c64 : (((rdOf ByteArray.empty t237 x81_3).toList == ([110, 101, 119] : List UInt8)) != (decide ((Int.tmod (rd l2 x81_3) 64) < (IntKind.u64.wrap (1 + (IntKind.u64.wrap (Int.tmod a1 63))))))) = true
                          · rw [if_pos c64] at H
                            have c64b0 : (((rdOf ByteArray.empty t237 x81_3).toList == ([110, 101, 119] : List UInt8)) != (decide ((Int.tmod (rd l2 x81_3) 64) < (IntKind.u64.wrap (1 + (IntKind.u64.wrap (Int.tmod a1 63))))))) = true := c64
                            (try (have c64b1 : decide (((rdOf ByteArray.empty t237 x81_3).toList == ([110, 101, 119] : List UInt8)) = (decide ((Int.tmod (rd l2 x81_3) 64) < (IntKind.u64.wrap (1 + (IntKind.u64.wrap (Int.tmod a1 63))))))) = false := by simpa using c64))
                            (try (have c64b2 : (((rdOf ByteArray.empty t237 x81_3).toList == ([110, 101, 119] : List UInt8)) == (decide ((Int.tmod (rd l2 x81_3) 64) < (IntKind.u64.wrap (1 + (IntKind.u64.wrap (Int.tmod a1 63))))))) = false := by simpa using c64))
                            (try (have c64b3 : ¬ (((rdOf ByteArray.empty t237 x81_3).toList == ([110, 101, 119] : List UInt8)) = (decide ((Int.tmod (rd l2 x81_3) 64) < (IntKind.u64.wrap (1 + (IntKind.u64.wrap (Int.tmod a1 63))))))) := by simpa using c64))
                            clear c64
                            obtain rfl := Option.some.inj H
                            have p247 : 0 ≤ (x81_3 : Int) := of_decide_eq_true (by first | (with_reducible assumption) | assumption)
                            have q247 : x81_3 < (t237.length : Int) := of_decide_eq_true (by first | (with_reducible assumption) | assumption)
                            obtain ⟨ad247, e247, hx247_0⟩ := Kd.at_string (Kd.V_reads' HO_79.out).2.2 x81_3 p247 q247
                            cases e247
                            replace p247 := eq_true p247
                            replace q247 := eq_true q247
                            have p248 : 0 ≤ (x81_3 : Int) := of_decide_eq_true (by first | (with_reducible assumption) | assumption)
                            have q248 : x81_3 < (l2.length : Int) := of_decide_eq_true (by first | (with_reducible assumption) | assumption)
                            obtain ⟨ad248, e248, hx248_0⟩ := Kd.at_int HR2.out x81_3 p248 q248
                            cases e248
                            replace hx248_0 := (HB.out.cell (World.block_lt_of_cell? w _ hx248_0)).trans hx248_0
                            replace p248 := eq_true p248
                            replace q248 := eq_true q248
                            go_wp2
                            go_ret
                            exact ⟨by first | rfl | (simp [errW_none, errW_some] <;> rfl) | (simp [*, errW_none, errW_some] <;> rfl), by repeat (first | (with_reducible first | exact HB.out | apply below_alloc | apply pw_below_drewN | apply below_drew1 | refine below_set ?_ GE223.out | refine below_set ?_ GE234.out | refine below_set ?_ GE245.out | refine below_set ?_ GE246.out) | exact HB.out)⟩
                          · rw [if_neg c64] at H
                            have c64b0 : (((rdOf ByteArray.empty t237 x81_3).toList == ([110, 101, 119] : List UInt8)) != (decide ((Int.tmod (rd l2 x81_3) 64) < (IntKind.u64.wrap (1 + (IntKind.u64.wrap (Int.tmod a1 63))))))) = false := by simpa using c64
                            (try (have c64b1 : decide (((rdOf ByteArray.empty t237 x81_3).toList == ([110, 101, 119] : List UInt8)) = (decide ((Int.tmod (rd l2 x81_3) 64) < (IntKind.u64.wrap (1 + (IntKind.u64.wrap (Int.tmod a1 63))))))) = true := by simpa using c64))
                            (try (have c64b2 : (((rdOf ByteArray.empty t237 x81_3).toList == ([110, 101, 119] : List UInt8)) == (decide ((Int.tmod (rd l2 x81_3) 64) < (IntKind.u64.wrap (1 + (IntKind.u64.wrap (Int.tmod a1 63))))))) = true := by simpa using c64))
                            clear c64
                            have H' := Aside0.mk H
                            clear H
                            have p247 : 0 ≤ (x81_3 : Int) := of_decide_eq_true (by first | (with_reducible assumption) | assumption)
                            have q247 : x81_3 < (t237.length : Int) := of_decide_eq_true (by first | (with_reducible assumption) | assumption)
                            obtain ⟨ad247, e247, hx247_0⟩ := Kd.at_string (Kd.V_reads' HO_79.out).2.2 x81_3 p247 q247
                            cases e247
                            replace p247 := eq_true p247
                            replace q247 := eq_true q247
                            have p248 : 0 ≤ (x81_3 : Int) := of_decide_eq_true (by first | (with_reducible assumption) | assumption)
                            have q248 : x81_3 < (l2.length : Int) := of_decide_eq_true (by first | (with_reducible assumption) | assumption)
                            obtain ⟨ad248, e248, hx248_0⟩ := Kd.at_int HR2.out x81_3 p248 q248
                            cases e248
                            replace hx248_0 := (HB.out.cell (World.block_lt_of_cell? w _ hx248_0)).trans hx248_0
                            replace p248 := eq_true p248
                            replace q248 := eq_true q248
                            go_wp2
                            go_roundg k3
                            case measure => have := HJ3.out; have := HJ11.out; have := HK3.out; omega
                            case rel => exact ⟨(wrap64 (x81_3 + 1)), (by first | rfl | (simp; done) | (simp [*]; done)), H', ⟨by have := HJ3.out; have := HJ11.out; have := HK3.out; omega⟩, ⟨by (with_reducible repeat (first | apply Kd.V_alloc | apply Kd.V_drewN | apply Kd.V_drew)); exact HO_79.out⟩, ⟨by (with_reducible repeat (first | apply Kd.V_alloc | apply Kd.V_drewN | apply Kd.V_drew)); exact HO_224002.out⟩, ⟨by (with_reducible repeat (first | apply Kd.V_alloc | apply Kd.V_drewN | apply Kd.V_drew)); exact HO_235000.out⟩, ⟨by (with_reducible repeat (first | apply Kd.V_alloc | apply Kd.V_drewN | apply Kd.V_drew)); exact HO_246002.out⟩, ⟨by (with_reducible repeat (first | apply Kd.V_alloc | apply Kd.V_drewN | apply Kd.V_drew)); exact HO_247000.out⟩, ⟨by (with_reducible repeat (first | refine blk_drewN ?_ _ | refine blk_drew ?_ | refine blk_alloc ?_ _)); exact BK223.out⟩, ⟨by (with_reducible repeat (first | refine blk_drewN ?_ _ | refine blk_drew ?_ | refine blk_alloc ?_ _)); exact BK234.out⟩, ⟨by (with_reducible repeat (first | refine blk_drewN ?_ _ | refine blk_drew ?_ | refine blk_alloc ?_ _)); exact BK245.out⟩, ⟨by (with_reducible repeat (first | refine blk_drewN ?_ _ | refine blk_drew ?_ | refine blk_alloc ?_ _)); exact BK246.out⟩, ⟨by repeat (first | (with_reducible first | exact HB.out | apply below_alloc | apply pw_below_drewN | apply below_drew1 | refine below_set ?_ GE223.out | refine below_set ?_ GE234.out | refine below_set ?_ GE245.out | refine below_set ?_ GE246.out) | exact HB.out)⟩⟩
                        · rw [if_neg c63] at H
                          exact absurd H (by simp)
                      · rw [if_neg c62] at H
                        exact absurd H (by simp)
                    · rw [if_neg c61] at H
                      exact absurd H (by simp)
                  · rw [if_neg c60] at H
                    have c60b0 : decide (x81_3 < (t237.length : Int)) = false := decide_eq_false c60
                    clear c60
                    replace H := Option.bind_eq_some_iff.mp H
                    obtain ⟨t249, A650, H⟩ := H
                    replace H : (some t249) = some r := H
                    have A65 := Aside0.mk A650
                    clear A650
                    obtain rfl := Option.some.inj H
                    go_wp2_with (first | ((with_reducible refine gate_callee (f := 9) rfl ?_); refine goesL_ (some 97) rfl rfl Try.func9 (by kernel_rfl) rfl #[] rfl (by (try simp only [List.map_toArray, List.map_cons, List.map_nil]); first | done | rfl | (simp only [List.length_drop, List.length_take]; rfl)) ?_; (with_reducible refine (samphirelaw17_awake.calls k3  t249 _ A65.out).mono ?_); rintro e w66 ⟨rfl, hb⟩; refine ⟨_, rfl, ?_⟩; have n0_ := Aside0.mk (Kd.V_below (by (with_reducible repeat (first | apply Kd.V_alloc | apply Kd.V_drewN | apply Kd.V_drew)); exact HO_79.out) hb); have n1_ := Aside0.mk (Kd.V_below (by (with_reducible repeat (first | apply Kd.V_alloc | apply Kd.V_drewN | apply Kd.V_drew)); exact HO_224002.out) hb); have n2_ := Aside0.mk (Kd.V_below (by (with_reducible repeat (first | apply Kd.V_alloc | apply Kd.V_drewN | apply Kd.V_drew)); exact HO_235000.out) hb); have n3_ := Aside0.mk (Kd.V_below (by (with_reducible repeat (first | apply Kd.V_alloc | apply Kd.V_drewN | apply Kd.V_drew)); exact HO_246002.out) hb); have n4_ := Aside0.mk (Kd.V_below (by (with_reducible repeat (first | apply Kd.V_alloc | apply Kd.V_drewN | apply Kd.V_drew)); exact HO_247000.out) hb); have n5_ := Aside0.mk (blk_below (g := gb223) (o := .cells #[.int .i64 t224, .int .u64 t225, .slice Ao23 t226.length co23] 27 (0, 0)) (by (with_reducible repeat (first | refine blk_drewN ?_ _ | refine blk_drew ?_ | refine blk_alloc ?_ _)); exact BK223.out) hb); have n6_ := Aside0.mk (blk_below (g := gb234) (o := .cells #[.slice Ao25 t229.length co25, .int .i64 t232] 33 (0, 0)) (by (with_reducible repeat (first | refine blk_drewN ?_ _ | refine blk_drew ?_ | refine blk_alloc ?_ _)); exact BK234.out) hb); have n7_ := Aside0.mk (blk_below (g := gb245) (o := .cells #[.int .i64 t235, .int .u64 t236, .slice Ao36 t237.length co36] 27 (0, 0)) (by (with_reducible repeat (first | refine blk_drewN ?_ _ | refine blk_drew ?_ | refine blk_alloc ?_ _)); exact BK245.out) hb); have n8_ := Aside0.mk (blk_below (g := gb246) (o := .cells #[.slice Ao37 t240.length co37, .int .i64 t243] 33 (0, 0)) (by (with_reducible repeat (first | refine blk_drewN ?_ _ | refine blk_drew ?_ | refine blk_alloc ?_ _)); exact BK246.out) hb); have n9_ := Aside0.mk (below_step (by repeat (first | (with_reducible first | exact HB.out | apply below_alloc | apply pw_below_drewN | apply below_drew1 | refine below_set ?_ GE223.out | refine below_set ?_ GE234.out | refine below_set ?_ GE245.out | refine below_set ?_ GE246.out) | exact HB.out)) hb); clear HO_79; clear HO_224002; clear HO_235000; clear HO_246002; clear HO_247000; clear BK223; clear BK234; clear BK245; clear BK246; clear HB; have HO_79 := n0_; have HO_224002 := n1_; have HO_235000 := n2_; have HO_246002 := n3_; have HO_247000 := n4_; have BK223 := n5_; have BK234 := n6_; have BK245 := n7_; have BK246 := n8_; have HB := n9_; clear n0_ n1_ n2_ n3_ n4_ n5_ n6_ n7_ n8_ n9_; (try clear hb); (try clear hb2); (try clear hk); (try clear hi)))
                    go_ret
                    exact ⟨by first | rfl | (simp [errW_none, errW_some] <;> rfl) | (simp [*, errW_none, errW_some] <;> rfl), by repeat (first | (with_reducible first | exact HB.out | apply below_alloc | apply pw_below_drewN | apply below_drew1 | refine below_set ?_ GE223.out | refine below_set ?_ GE234.out | refine below_set ?_ GE245.out | refine below_set ?_ GE246.out) | exact HB.out)⟩

/-- THE ONE PURE STATEMENT of samphirelaw17_SlotsPlaces: yours. -/
def samphirelaw17_SlotsPlaces.Pure : Prop := ∀ (a0 : Int) (a1 : Int) (l2 : List Int), (Lit.int .u8 a0).wf = true → (Lit.int .u8 a1).wf = true → l2.length ≤ maxLen → l2.length * 8 ≤ 140737488351232 → (∀ x ∈ l2, (Lit.int .u64 x).wf = true) → ∃ k, samphirelaw17_SlotsPlaces.f k a0 a1 l2 = some true
theorem samphirelaw17_SlotsPlaces.walk (P : samphirelaw17_SlotsPlaces.Pure) (a0 : Int) (a1 : Int) (a2 : Option Addr) (len2 cap2 : Nat) (z2 : List Int) (w : World) (w0 : (Lit.int .u8 a0).wf = true) (w1 : (Lit.int .u8 a1).wf = true) (w2 : (a2 = none ∧ len2 = 0 ∧ cap2 = 0 ∧ z2 = []) ∨ ∃ x, a2 = some x ∧ len2 ≤ cap2 ∧ cap2 ≤ maxLen ∧ z2.length = cap2 ∧ (∀ i, i < z2.length → w.cell? (x.add i) = some (.int .u64 (z2.getD i 0))) ∧ ∀ n ∈ z2, (Lit.int .u64 n).wf = true) (y2 : len2 * 8 ≤ 140737488351232) :
    Calls Try.prog 4 #[.int .u8 a0, .int .u8 a1, .slice a2 len2 cap2] w fun e w' => e = .returned (.bool true) ∧ Below w.heap.size w w' := by
  obtain ⟨l2, rfl, hr2, hm2, hw2, hc2⟩ := ReadsInt.ofRowC w2
  obtain ⟨k, h⟩ := P a0 a1 l2 w0 w1 hm2 y2 hw2
  refine (samphirelaw17_SlotsPlaces.calls k a0 a1 _ _ l2 true w (Kd.C_of_reads (d := (0 : Int)) (h1 := fun _ => rfl) hr2) hc2 h).mono ?_
  rintro e w' ⟨rfl, hd⟩
  exact ⟨rfl, hd⟩

end Go.Proofs.Ytabfaoghacamlaa.Q
