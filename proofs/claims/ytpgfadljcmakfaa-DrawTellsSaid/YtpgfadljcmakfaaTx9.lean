/- Walks of Go functions, each against a plain function over numbers and lists; written by this session's program printx.py over the kit's print; no condition but those that each theorem states. -/
import Derived.Test.YtpgfadljcmakfaaTx0
import Derived.Test.YtpgfadljcmakfaaTx1
import Derived.Test.YtpgfadljcmakfaaTx2
import Derived.Test.YtpgfadljcmakfaaTx4
import Derived.Test.YtpgfadljcmakfaaTx5
import Derived.Test.YtpgfadljcmakfaaTx7
import Derived.Test.YtpgfadljcmakfaaTx8
namespace Go.Proofs.Ytpgfadljcmakfaa.T
open Go.Proofs.Ytpgfadljcmakfaa.Q Go.RowKit Go.Proofs.YtpgfadljcmakfaaW.PrintWords Go.Proofs.YtpgfadljcmakfaaW.PrintLast Go.Proofs.YtpgfadljcmakfaaW.PrintMore
attribute [local go_sem] max2_int min2_int max_two min_two max_three min_three max_four min_four   -- for this text's walks alone
set_option linter.unusedVariables false
set_option linter.unusedSimpArgs false

/-! ### samphirelaw07_DrawTells: function 3 -/
mutual
def samphirelaw07_DrawTells.j0 : Nat → List Int → Int → Int → List Int → Bool → Option (Bool)
 | 0, _, _, _, _, _ => none
 | k + 1, x0, x1, x2, x3, x31 => if x31 = true then ((samphirelaw07_awake.f k).bind fun t314 => (some t314)) else ((draw_Below.f k x0 x1 x2).bind fun bt317 => ((samphireref02_Of.f k x2).bind fun t324 => ((samphireref07_Below.f k x0 x1 t324).bind fun bt327 => ((samphireref07_Number.f k bt327.1).bind fun t336 => (if bt317.1 = t336 then (if bt317.2.2.1 = bt327.2.2.1 then (samphirelaw07_DrawTells.j1 k x0 x1 x3 (bt317.2.2.2 != bt327.2.2.2) x0 x1 x0 x1) else (samphirelaw07_DrawTells.j1 k x0 x1 x3 true x0 x1 x0 x1)) else (samphirelaw07_DrawTells.j1 k x0 x1 x3 true x0 x1 x0 x1))))))
def samphirelaw07_DrawTells.j1 : Nat → List Int → Int → List Int → Bool → List Int → Int → List Int → Int → Option (Bool)
 | 0, _, _, _, _, _, _, _, _ => none
 | k + 1, x0, x1, x3, x69, x316000, x316001, x317000, x317001 => if x69 = true then (some false) else ((draw_BelowNat.f k x316000 x316001 x3).bind fun bt337 => ((samphireref07_Below.f k x317000 x317001 x3).bind fun bt346 => (if x1 ≥ 0 then (samphirelaw07_DrawTells.j2 k x0 x1 bt337.1 bt337.2.2.2 bt346.1 bt346.2.2.2 0 (decide (x1 ≤ (x0.length : Int))) x316000 x316001 bt337.2.1 bt337.2.2.1 bt346.2.1 bt346.2.2.1) else (samphirelaw07_DrawTells.j2 k x0 x1 bt337.1 bt337.2.2.2 bt346.1 bt346.2.2.2 0 false x316000 x316001 bt337.2.1 bt337.2.2.1 bt346.2.1 bt346.2.2.1))))
def samphirelaw07_DrawTells.j2 : Nat → List Int → Int → List Int → Int → List Int → Int → Int → Bool → List Int → Int → List Int → Int → List Int → Int → Option (Bool)
 | 0, _, _, _, _, _, _, _, _, _, _, _, _, _, _ => none
 | k + 1, x0, x1, x17, x19, x20, x22, x23, x91, x316000, x316001, x346000, x346001, x355000, x355001 => if x91 = true then ((samphireref02_Same.f k x17 x20).bind fun t355 => (if t355 = true then (if x346001 = x355001 then (if x19 = x22 then ((draw_Left.f x316000 x316001).bind fun t356 => (if t356 = (wrap64 ((x0.length : Int) - x1)) then ((samphirelaw07_awake.f k).bind fun t357 => (some t357)) else (none))) else (none)) else (none)) else (none))) else ((samphireref02_Same.f k x17 x20).bind fun t358 => (if t358 = true then (if x346001 = x355001 then (if x19 = x22 then ((draw_Left.f x316000 x316001).bind fun t359 => (if t359 = x23 then ((samphirelaw07_awake.f k).bind fun t360 => (some t360)) else (none))) else (none)) else (none)) else (none)))
end
def samphirelaw07_DrawTells.f (k : Nat) (l0 : List Int) (a1 : Int) (a2 : Int) (l3 : List Int) : Option (Bool) := if (l0.length : Int) > 60 then (samphirelaw07_DrawTells.j0 k l0 a1 a2 l3 true) else (samphirelaw07_DrawTells.j0 k l0 a1 a2 l3 (decide ((l3.length : Int) > 70)))
theorem samphirelaw07_DrawTells.mono_l : ∀ k, (∀ y0 y1 y2 y3 y4, LeO (samphirelaw07_DrawTells.j0 k y0 y1 y2 y3 y4) (samphirelaw07_DrawTells.j0 (k + 1) y0 y1 y2 y3 y4)) ∧ (∀ y0 y1 y2 y3 y4 y5 y6 y7, LeO (samphirelaw07_DrawTells.j1 k y0 y1 y2 y3 y4 y5 y6 y7) (samphirelaw07_DrawTells.j1 (k + 1) y0 y1 y2 y3 y4 y5 y6 y7)) ∧ (∀ y0 y1 y2 y3 y4 y5 y6 y7 y8 y9 y10 y11 y12 y13, LeO (samphirelaw07_DrawTells.j2 k y0 y1 y2 y3 y4 y5 y6 y7 y8 y9 y10 y11 y12 y13) (samphirelaw07_DrawTells.j2 (k + 1) y0 y1 y2 y3 y4 y5 y6 y7 y8 y9 y10 y11 y12 y13))
 | 0 => ⟨fun _ _ _ _ _ r h => by simp [samphirelaw07_DrawTells.j0] at h, fun _ _ _ _ _ _ _ _ r h => by simp [samphirelaw07_DrawTells.j1] at h, fun _ _ _ _ _ _ _ _ _ _ _ _ _ _ r h => by simp [samphirelaw07_DrawTells.j2] at h⟩
 | k + 1 => by
  obtain ⟨ih0, ih1, ih2⟩ := samphirelaw07_DrawTells.mono_l k
  refine ⟨?_, ?_, ?_⟩
  ·
   intro y0 y1 y2 y3 y4
   unfold samphirelaw07_DrawTells.j0
   repeat' first
   | (with_reducible exact ih0 _ _ _ _ _)
   | (with_reducible exact ih1 _ _ _ _ _ _ _ _)
   | (with_reducible exact ih2 _ _ _ _ _ _ _ _ _ _ _ _ _ _)
   | (with_reducible exact draw_Below.mono _ _ _ _)
   | (with_reducible exact draw_BelowNat.mono _ _ _ _)
   | (with_reducible exact samphirelaw07_awake.mono _)
   | (with_reducible exact samphireref02_Of.mono _ _)
   | (with_reducible exact samphireref02_Same.mono _ _ _)
   | (with_reducible exact samphireref07_Below.mono _ _ _ _)
   | (with_reducible exact samphireref07_Number.mono _ _)
   | (with_reducible exact LeO.refl _)
   | (with_reducible exact LeO.none _)
   | (with_reducible refine LeO.ite ?_ ?_)
   | (with_reducible refine LeO.bind ?_ (fun _ => ?_))
   | exact ih0 _ _ _ _ _
   | exact ih1 _ _ _ _ _ _ _ _
   | exact ih2 _ _ _ _ _ _ _ _ _ _ _ _ _ _
   | exact draw_Below.mono _ _ _ _
   | exact draw_BelowNat.mono _ _ _ _
   | exact samphirelaw07_awake.mono _
   | exact samphireref02_Of.mono _ _
   | exact samphireref02_Same.mono _ _ _
   | exact samphireref07_Below.mono _ _ _ _
   | exact samphireref07_Number.mono _ _
   | exact LeO.none _
   | refine LeO.ite ?_ ?_
   | refine LeO.bind ?_ (fun _ => ?_)
  ·
   intro y0 y1 y2 y3 y4 y5 y6 y7
   unfold samphirelaw07_DrawTells.j1
   repeat' first
   | (with_reducible exact ih0 _ _ _ _ _)
   | (with_reducible exact ih1 _ _ _ _ _ _ _ _)
   | (with_reducible exact ih2 _ _ _ _ _ _ _ _ _ _ _ _ _ _)
   | (with_reducible exact draw_Below.mono _ _ _ _)
   | (with_reducible exact draw_BelowNat.mono _ _ _ _)
   | (with_reducible exact samphirelaw07_awake.mono _)
   | (with_reducible exact samphireref02_Of.mono _ _)
   | (with_reducible exact samphireref02_Same.mono _ _ _)
   | (with_reducible exact samphireref07_Below.mono _ _ _ _)
   | (with_reducible exact samphireref07_Number.mono _ _)
   | (with_reducible exact LeO.refl _)
   | (with_reducible exact LeO.none _)
   | (with_reducible refine LeO.ite ?_ ?_)
   | (with_reducible refine LeO.bind ?_ (fun _ => ?_))
   | exact ih0 _ _ _ _ _
   | exact ih1 _ _ _ _ _ _ _ _
   | exact ih2 _ _ _ _ _ _ _ _ _ _ _ _ _ _
   | exact draw_Below.mono _ _ _ _
   | exact draw_BelowNat.mono _ _ _ _
   | exact samphirelaw07_awake.mono _
   | exact samphireref02_Of.mono _ _
   | exact samphireref02_Same.mono _ _ _
   | exact samphireref07_Below.mono _ _ _ _
   | exact samphireref07_Number.mono _ _
   | exact LeO.none _
   | refine LeO.ite ?_ ?_
   | refine LeO.bind ?_ (fun _ => ?_)
  ·
   intro y0 y1 y2 y3 y4 y5 y6 y7 y8 y9 y10 y11 y12 y13
   unfold samphirelaw07_DrawTells.j2
   repeat' first
   | (with_reducible exact ih0 _ _ _ _ _)
   | (with_reducible exact ih1 _ _ _ _ _ _ _ _)
   | (with_reducible exact ih2 _ _ _ _ _ _ _ _ _ _ _ _ _ _)
   | (with_reducible exact draw_Below.mono _ _ _ _)
   | (with_reducible exact draw_BelowNat.mono _ _ _ _)
   | (with_reducible exact samphirelaw07_awake.mono _)
   | (with_reducible exact samphireref02_Of.mono _ _)
   | (with_reducible exact samphireref02_Same.mono _ _ _)
   | (with_reducible exact samphireref07_Below.mono _ _ _ _)
   | (with_reducible exact samphireref07_Number.mono _ _)
   | (with_reducible exact LeO.refl _)
   | (with_reducible exact LeO.none _)
   | (with_reducible refine LeO.ite ?_ ?_)
   | (with_reducible refine LeO.bind ?_ (fun _ => ?_))
   | exact ih0 _ _ _ _ _
   | exact ih1 _ _ _ _ _ _ _ _
   | exact ih2 _ _ _ _ _ _ _ _ _ _ _ _ _ _
   | exact draw_Below.mono _ _ _ _
   | exact draw_BelowNat.mono _ _ _ _
   | exact samphirelaw07_awake.mono _
   | exact samphireref02_Of.mono _ _
   | exact samphireref02_Same.mono _ _ _
   | exact samphireref07_Below.mono _ _ _ _
   | exact samphireref07_Number.mono _ _
   | exact LeO.none _
   | refine LeO.ite ?_ ?_
   | refine LeO.bind ?_ (fun _ => ?_)
theorem samphirelaw07_DrawTells.mono : ∀ a0 a1 a2 a3 k, LeO (samphirelaw07_DrawTells.f k a0 a1 a2 a3) (samphirelaw07_DrawTells.f (k + 1) a0 a1 a2 a3) := by
 intro a0 a1 a2 a3 k
 obtain ⟨ih0, ih1, ih2⟩ := samphirelaw07_DrawTells.mono_l k
 unfold samphirelaw07_DrawTells.f
 repeat' first
   | (with_reducible exact ih0 _ _ _ _ _)
   | (with_reducible exact ih1 _ _ _ _ _ _ _ _)
   | (with_reducible exact ih2 _ _ _ _ _ _ _ _ _ _ _ _ _ _)
   | (with_reducible exact draw_Below.mono _ _ _ _)
   | (with_reducible exact draw_BelowNat.mono _ _ _ _)
   | (with_reducible exact samphirelaw07_awake.mono _)
   | (with_reducible exact samphireref02_Of.mono _ _)
   | (with_reducible exact samphireref02_Same.mono _ _ _)
   | (with_reducible exact samphireref07_Below.mono _ _ _ _)
   | (with_reducible exact samphireref07_Number.mono _ _)
   | (with_reducible exact LeO.refl _)
   | (with_reducible exact LeO.none _)
   | (with_reducible refine LeO.ite ?_ ?_)
   | (with_reducible refine LeO.bind ?_ (fun _ => ?_))
   | exact ih0 _ _ _ _ _
   | exact ih1 _ _ _ _ _ _ _ _
   | exact ih2 _ _ _ _ _ _ _ _ _ _ _ _ _ _
   | exact draw_Below.mono _ _ _ _
   | exact draw_BelowNat.mono _ _ _ _
   | exact samphirelaw07_awake.mono _
   | exact samphireref02_Of.mono _ _
   | exact samphireref02_Same.mono _ _ _
   | exact samphireref07_Below.mono _ _ _ _
   | exact samphireref07_Number.mono _ _
   | exact LeO.none _
   | refine LeO.ite ?_ ?_
   | refine LeO.bind ?_ (fun _ => ?_)
def samphirelaw07_DrawTells.T6 : Bool × List (List Nat × List Nat) := (true, [([], []), ([], []), ([1], [1]), ([0, 2, 2], [0, 2]), ([3], [3]), ([4], [4]), ([4], [4]), ([4], [4]), ([], []), ([5, 3, 0, 1, 2, 3, 4, 5, 8], [5]), ([8, 6, 9, 0, 1, 2, 3, 4, 5, 6, 8, 9], [6, 8]), ([7, 10, 0, 1, 2, 3, 4, 5, 6, 7, 8, 9, 10], [7])])
def samphirelaw07_DrawTells.B6 : List Nat := [0, 0, 2, 7, 15, 31, 31, 31, 0, 319, 895, 2047]
theorem samphirelaw07_DrawTells.tab6 : rtab .any (opsOf Try.f3 6) = samphirelaw07_DrawTells.T6 := by kernel_rfl
theorem samphirelaw07_DrawTells.bits6 : waitsOk samphirelaw07_DrawTells.T6.2 samphirelaw07_DrawTells.B6 = true := by kernel_rfl
set_option maxHeartbeats 8000000 in
set_option maxRecDepth 100000 in
theorem samphirelaw07_DrawTells.calls (k : Nat) (A0 : Option Addr) (c0 : Nat) (l0 : List Int) (a1 : Int) (a2 : Int) (A3 : Option Addr) (c3 : Nat) (l3 : List Int) (r : Bool) (w : World) (hr0 : Kd.C (Kd.int .u64) w A0 l0.length l0) (hc0 : l0.length ≤ c0) (hr3 : Kd.C (Kd.int .u32) w A3 l3.length l3) (hc3 : l3.length ≤ c3) (h : samphirelaw07_DrawTells.f k l0 a1 a2 l3 = some r) :
  Calls Try.prog 3 #[.slice A0 l0.length c0, .int .i64 a1, .int .u64 a2, .slice A3 l3.length c3] w fun e w' => e = .returned (.bool r) ∧ Below w.heap.size w w' := by
 have hu28 := Try.underlying28
 have hu29 := Try.underlying29
 have HR0 := Aside0.mk hr0
 have HC0 := Aside0.mk hc0
 clear hr0 hc0
 have HR3 := Aside0.mk hr3
 have HC3 := Aside0.mk hc3
 clear hr3 hc3
 have HB := Aside0.mk (Below.refl w.heap.size w)
 have H : (if (l0.length : Int) > 60 then (samphirelaw07_DrawTells.j0 k l0 a1 a2 l3 true) else (samphirelaw07_DrawTells.j0 k l0 a1 a2 l3 (decide ((l3.length : Int) > 70)))) = some r := h
 clear h
 have HC5 := Aside0.mk H
 clear H
 go_enter Try.func3, Try.ntmps3
 go_upto_region 1 with (fail)
 go_cut [31] (fun v31 wc => ∃ (kq : Nat) (x31_4 : Bool), v31 = .bool x31_4 ∧ Aside0 (samphirelaw07_DrawTells.j0 kq l0 a1 a2 l3 x31_4 = some r) ∧ Aside0 (kq ≤ k) ∧ Aside0 (Below w.heap.size w wc))
 case first =>
  have H := HC5.out
  clear HC5
  by_cases c6 : (l0.length : Int) > 60
  ·
   rw [if_pos c6] at H
   have c6b0 : decide (60 < (l0.length : Int)) = true := decide_eq_true c6
   have c6b1 : decide (60 < l0.length) = true := decide_eq_true (by omega)
   clear c6
   (first | rw [c6b0] | (simp only [i64_w, i32_w]; rw [c6b0]) | skip)
   have H' := Aside0.mk H
   clear H
   go_wp2
   go_meet
   case rel => exact ⟨_, (true), (by first | rfl | (simp; done) | (simp [*]; done)), H', ⟨by first | omega | exact Nat.le_refl _⟩, ⟨by repeat (first | (with_reducible first | exact HB.out | apply below_alloc | apply pw_below_drewN | apply below_drew1) | exact HB.out)⟩⟩
  ·
   rw [if_neg c6] at H
   have c6b0 : decide (60 < (l0.length : Int)) = false := decide_eq_false c6
   have c6b1 : decide (60 < l0.length) = false := decide_eq_false (by omega)
   clear c6
   (first | rw [c6b0] | (simp only [i64_w, i32_w]; rw [c6b0]) | skip)
   have H' := Aside0.mk H
   clear H
   go_wp2
   go_meet
   case rel => exact ⟨_, (decide ((l3.length : Int) > 70)), (by first | rfl | (simp; done) | (simp [*]; done)), H', ⟨by first | omega | exact Nat.le_refl _⟩, ⟨by repeat (first | (with_reducible first | exact HB.out | apply below_alloc | apply pw_below_drewN | apply below_drew1) | exact HB.out)⟩⟩
 case rest =>
  clear HC5
  try clear p2
  try clear c3
  try clear c6
  try clear c6b0
  try clear c6b1
  obtain ⟨kq, x31_4, rfl, HA, HJ4, HB⟩ := hcut
  cases kq with
  | zero => exact absurd HA.out (by simp [samphirelaw07_DrawTells.j0])
  | succ kj4 =>
   have H := HA.out
   clear HA
   simp only [samphirelaw07_DrawTells.j0] at H
   by_cases c7 : x31_4 = true
   ·
    subst c7
    have H1 : ((samphirelaw07_awake.f kj4).bind fun t314 => (some t314)) = some r := by rw [if_pos rfl] at H; exact H
    clear H
    have H := H1
    clear H1
    replace H := Option.bind_eq_some_iff.mp H
    obtain ⟨t314, A80, H⟩ := H
    replace H : (some t314) = some r := H
    have A8 := Aside0.mk A80
    clear A80
    obtain rfl := Option.some.inj H
    go_wp2_with (first | ((with_reducible refine gate_callee (f := 9) rfl ?_); refine goesL_ (some 32) rfl rfl Try.func9 (by kernel_rfl) rfl #[] rfl (by (try simp only [List.map_toArray, List.map_cons, List.map_nil]); first | done | rfl | (simp only [List.length_drop, List.length_take]; rfl)) ?_; (with_reducible refine (samphirelaw07_awake.calls kj4  t314 _ A8.out).mono ?_); rintro e w9 ⟨rfl, hb⟩; refine ⟨_, rfl, ?_⟩; have n0_ := Aside0.mk (below_step (by repeat (first | (with_reducible first | exact HB.out | apply below_alloc | apply pw_below_drewN | apply below_drew1) | exact HB.out)) hb); clear HB; have HB := n0_; clear n0_; (try clear hb); (try clear hb2); (try clear hk); (try clear hi)))
    go_ret
    exact ⟨by first | rfl | (simp [errW_none, errW_some] <;> rfl) | (simp [*, errW_none, errW_some] <;> rfl), by repeat (first | (with_reducible first | exact HB.out | apply below_alloc | apply pw_below_drewN | apply below_drew1) | exact HB.out)⟩
   ·
    replace c7 := Bool.eq_false_iff.mpr c7
    subst c7
    have H1 : ((draw_Below.f kj4 l0 a1 a2).bind fun bt317 => ((samphireref02_Of.f kj4 a2).bind fun t324 => ((samphireref07_Below.f kj4 l0 a1 t324).bind fun bt327 => ((samphireref07_Number.f kj4 bt327.1).bind fun t336 => (if bt317.1 = t336 then (if bt317.2.2.1 = bt327.2.2.1 then (samphirelaw07_DrawTells.j1 kj4 l0 a1 l3 (bt317.2.2.2 != bt327.2.2.2) l0 a1 l0 a1) else (samphirelaw07_DrawTells.j1 kj4 l0 a1 l3 true l0 a1 l0 a1)) else (samphirelaw07_DrawTells.j1 kj4 l0 a1 l3 true l0 a1 l0 a1)))))) = some r := by rw [if_neg (show ¬ (false = true) by decide)] at H; exact H
    clear H
    have H := H1
    clear H1
    replace H := Option.bind_eq_some_iff.mp H
    obtain ⟨⟨t317, t318, t321, t322⟩, A100, H⟩ := H
    replace H : ((samphireref02_Of.f kj4 a2).bind fun t324 => ((samphireref07_Below.f kj4 l0 a1 t324).bind fun bt327 => ((samphireref07_Number.f kj4 bt327.1).bind fun t336 => (if t317 = t336 then (if t321 = bt327.2.2.1 then (samphirelaw07_DrawTells.j1 kj4 l0 a1 l3 (t322 != bt327.2.2.2) l0 a1 l0 a1) else (samphirelaw07_DrawTells.j1 kj4 l0 a1 l3 true l0 a1 l0 a1)) else (samphirelaw07_DrawTells.j1 kj4 l0 a1 l3 true l0 a1 l0 a1))))) = some r := H
    have A10 := Aside0.mk A100
    clear A100
    replace H := Option.bind_eq_some_iff.mp H
    obtain ⟨t324, A110, H⟩ := H
    replace H : ((samphireref07_Below.f kj4 l0 a1 t324).bind fun bt327 => ((samphireref07_Number.f kj4 bt327.1).bind fun t336 => (if t317 = t336 then (if t321 = bt327.2.2.1 then (samphirelaw07_DrawTells.j1 kj4 l0 a1 l3 (t322 != bt327.2.2.2) l0 a1 l0 a1) else (samphirelaw07_DrawTells.j1 kj4 l0 a1 l3 true l0 a1 l0 a1)) else (samphirelaw07_DrawTells.j1 kj4 l0 a1 l3 true l0 a1 l0 a1)))) = some r := H
    have A11 := Aside0.mk A110
    clear A110
    replace H := Option.bind_eq_some_iff.mp H
    obtain ⟨⟨t327, t330, t333, t334⟩, A120, H⟩ := H
    replace H : ((samphireref07_Number.f kj4 t327).bind fun t336 => (if t317 = t336 then (if t321 = t333 then (samphirelaw07_DrawTells.j1 kj4 l0 a1 l3 (t322 != t334) l0 a1 l0 a1) else (samphirelaw07_DrawTells.j1 kj4 l0 a1 l3 true l0 a1 l0 a1)) else (samphirelaw07_DrawTells.j1 kj4 l0 a1 l3 true l0 a1 l0 a1))) = some r := H
    have A12 := Aside0.mk A120
    clear A120
    have HC13 := Aside0.mk H
    clear H
    try go_wp2_with (first | ((with_reducible refine gate_dst (N := 9) rfl ?_); (try (refine gate_guard (by rfl) ?_; dsimp only)); refine box_event ?hg (N := 9) ?hd (cs := #[.slice none 0 0, .int .i64 0]) (t := 28) ?hr ?_; (case hd => rfl); (case hg => rfl); (case hr => first | (go_simp; done) | (go_simp; rfl)); intro gb315 hg w14 hbox hb; have n0_ := Aside0.mk (below_step (by repeat (first | (with_reducible first | exact HB.out | apply below_alloc | apply pw_below_drewN | apply below_drew1) | exact HB.out)) hb); have n1_ := Aside0.mk (hbox); have n2_ := Aside0.mk ((by rw [hg]; exact (below_size (by repeat (first | (with_reducible first | exact HB.out | apply below_alloc | apply pw_below_drewN | apply below_drew1) | exact HB.out))) : w.heap.size ≤ gb315)); have n3_ := Aside0.mk ((by rw [hg]; exact (below_size (by repeat (first | (with_reducible first | exact HB.out | apply below_alloc | apply pw_below_drewN | apply below_drew1) | exact HB.out))) : w.heap.size ≤ gb315)); clear HB; have HB := n0_; have BK315 := n1_; have GW315 := n2_; have GE315 := n3_; clear n0_ n1_ n2_ n3_; clear hb hbox hg; have hcz15_0 : w14.cell? ⟨gb315, 0, none⟩ = some (.slice none 0 0) := (blk_cell BK315.out 0).trans rfl; have hcz15_1 : w14.cell? ⟨gb315, 1, none⟩ = some (.int .i64 0) := (blk_cell BK315.out 1).trans rfl; have hfz15_0 := blk_frozen BK315.out 0; have hfz15_1 := blk_frozen BK315.out 1) | ((with_reducible refine gate_dst (N := 10) rfl ?_); (try (refine gate_guard (by rfl) ?_; dsimp only)); refine box_event ?hg (N := 10) ?hd (cs := #[.slice none 0 0, .int .i64 0]) (t := 29) ?hr ?_; (case hd => rfl); (case hg => rfl); (case hr => first | (go_simp; done) | (go_simp; rfl)); intro gb316 hg w16 hbox hb; have n0_ := Aside0.mk (blk_below (g := gb315) (o := .cells #[.slice A0 l0.length c0, .int .i64 a1] 28 (0, 0)) (by (with_reducible repeat (first | refine blk_drewN ?_ _ | refine blk_drew ?_ | refine blk_alloc ?_ _)); refine blk_put (cs := #[.slice A0 l0.length c0, .int .i64 0]) ?_ 1 _ rfl; (with_reducible repeat (first | refine blk_drewN ?_ _ | refine blk_drew ?_ | refine blk_alloc ?_ _)); refine blk_put (cs := #[.slice none 0 0, .int .i64 0]) ?_ 0 _ rfl; (with_reducible repeat (first | refine blk_drewN ?_ _ | refine blk_drew ?_ | refine blk_alloc ?_ _)); exact BK315.out) hb); have n1_ := Aside0.mk (below_step (by repeat (first | (with_reducible first | exact HB.out | apply below_alloc | apply pw_below_drewN | apply below_drew1 | refine below_set ?_ GE315.out) | exact HB.out)) hb); have n2_ := Aside0.mk (hbox); have n3_ := Aside0.mk ((by rw [hg]; exact (below_size (by repeat (first | (with_reducible first | exact HB.out | apply below_alloc | apply pw_below_drewN | apply below_drew1 | refine below_set ?_ GE315.out) | exact HB.out))) : w.heap.size ≤ gb316)); have n4_ := Aside0.mk ((by rw [hg]; exact (below_size (by repeat (first | (with_reducible first | exact HB.out | apply below_alloc | apply pw_below_drewN | apply below_drew1 | refine below_set ?_ GE315.out) | exact HB.out))) : w.heap.size ≤ gb316)); have n5_ := Aside0.mk ((by rw [hg]; exact Nat.ne_of_lt (blk_lt (g := gb315) (o := .cells #[.slice A0 l0.length c0, .int .i64 a1] 28 (0, 0)) (by (with_reducible repeat (first | refine blk_drewN ?_ _ | refine blk_drew ?_ | refine blk_alloc ?_ _)); refine blk_put (cs := #[.slice A0 l0.length c0, .int .i64 0]) ?_ 1 _ rfl; (with_reducible repeat (first | refine blk_drewN ?_ _ | refine blk_drew ?_ | refine blk_alloc ?_ _)); refine blk_put (cs := #[.slice none 0 0, .int .i64 0]) ?_ 0 _ rfl; (with_reducible repeat (first | refine blk_drewN ?_ _ | refine blk_drew ?_ | refine blk_alloc ?_ _)); exact BK315.out)) : gb315 ≠ gb316)); have n6_ := Aside0.mk ((by rw [hg]; exact Nat.ne_of_gt (blk_lt (g := gb315) (o := .cells #[.slice A0 l0.length c0, .int .i64 a1] 28 (0, 0)) (by (with_reducible repeat (first | refine blk_drewN ?_ _ | refine blk_drew ?_ | refine blk_alloc ?_ _)); refine blk_put (cs := #[.slice A0 l0.length c0, .int .i64 0]) ?_ 1 _ rfl; (with_reducible repeat (first | refine blk_drewN ?_ _ | refine blk_drew ?_ | refine blk_alloc ?_ _)); refine blk_put (cs := #[.slice none 0 0, .int .i64 0]) ?_ 0 _ rfl; (with_reducible repeat (first | refine blk_drewN ?_ _ | refine blk_drew ?_ | refine blk_alloc ?_ _)); exact BK315.out)) : gb316 ≠ gb315)); clear BK315; clear HB; have BK315 := n0_; have HB := n1_; have BK316 := n2_; have GW316 := n3_; have GE316 := n4_; have NB315_316 := n5_; have NB316_315 := n6_; clear n0_ n1_ n2_ n3_ n4_ n5_ n6_; clear hb hbox hg; have hnb17 := NB316_315.out; have hnc17 := NB315_316.out; have hcz18_0 : w16.cell? ⟨gb316, 0, none⟩ = some (.slice none 0 0) := (blk_cell BK316.out 0).trans rfl; have hcz18_1 : w16.cell? ⟨gb316, 1, none⟩ = some (.int .i64 0) := (blk_cell BK316.out 1).trans rfl; have hfz18_0 := blk_frozen BK316.out 0; have hfz18_1 := blk_frozen BK316.out 1) | ((with_reducible refine gate_store (t := 29) (p := 10) rfl ?_); refine store_event (t := 29) (p := 10) (v := ?vo_w19) (w1 := ((w16.setCell ⟨gb316, 0, none⟩ (.slice A0 l0.length c0)).setCell ⟨gb316, 1, none⟩ (.int .i64 a1))) ?hg ?ho ?hn ?hr ?_; (case ho => rfl); (case hg => rfl); (case hn => rfl); (case hr => first | (go_simp; done) | (go_simp; rfl)); intro w19 hw; have n0_ : Aside0 (w19.heap[gb315]? = some (.cells #[.slice A0 l0.length c0, .int .i64 a1] 28 (0, 0))) := ⟨(by rw [hw]; exact (by (with_reducible repeat (first | refine blk_drewN ?_ _ | refine blk_drew ?_ | refine blk_alloc ?_ _)); refine blk_far ?_ NB315_316.out _; (with_reducible repeat (first | refine blk_drewN ?_ _ | refine blk_drew ?_ | refine blk_alloc ?_ _)); refine blk_far ?_ NB315_316.out _; (with_reducible repeat (first | refine blk_drewN ?_ _ | refine blk_drew ?_ | refine blk_alloc ?_ _)); exact BK315.out))⟩; have n1_ : Aside0 (w19.heap[gb316]? = some (.cells #[.slice A0 l0.length c0, .int .i64 a1] 29 (0, 0))) := ⟨(by rw [hw]; exact (by (with_reducible repeat (first | refine blk_drewN ?_ _ | refine blk_drew ?_ | refine blk_alloc ?_ _)); refine blk_put (cs := #[.slice A0 l0.length c0, .int .i64 0]) ?_ 1 _ rfl; (with_reducible repeat (first | refine blk_drewN ?_ _ | refine blk_drew ?_ | refine blk_alloc ?_ _)); refine blk_put (cs := #[.slice none 0 0, .int .i64 0]) ?_ 0 _ rfl; (with_reducible repeat (first | refine blk_drewN ?_ _ | refine blk_drew ?_ | refine blk_alloc ?_ _)); exact BK316.out))⟩; have n2_ : Aside0 (Below w.heap.size w w19) := ⟨(by rw [hw]; exact (by repeat (first | (with_reducible first | exact HB.out | apply below_alloc | apply pw_below_drewN | apply below_drew1 | refine below_set ?_ GE315.out | refine below_set ?_ GE316.out) | exact HB.out)))⟩; clear hw; clear BK315; clear BK316; clear HB; have BK315 := n0_; have BK316 := n1_; have HB := n2_; clear n0_ n1_ n2_; have hcz20_0 : w19.cell? ⟨gb315, 0, none⟩ = some (.slice A0 l0.length c0) := (blk_cell BK315.out 0).trans rfl; have hcz20_1 : w19.cell? ⟨gb315, 1, none⟩ = some (.int .i64 a1) := (blk_cell BK315.out 1).trans rfl; have hfz20_0 := blk_frozen BK315.out 0; have hfz20_1 := blk_frozen BK315.out 1) | ((with_reducible refine gate_callee (f := 10) rfl ?_); refine goesL_ (some 42) rfl rfl Try.func10 (by kernel_rfl) rfl #[.agg #[.slice A0 l0.length c0, .int .i64 a1], .int .u64 a2] rfl (by (try simp only [List.map_toArray, List.map_cons, List.map_nil]); first | done | rfl | (simp only [List.length_drop, List.length_take]; rfl)) ?_; (with_reducible refine (draw_Below.calls kj4 (fun k_ => k_ < w.heap.size) _ _ l0 a1 a2 t317 t318 t321 t322 _ ?side1 A10.out).mono ?_); (case side1 => exact Kd.V_mk HC0.out (Kd.F_below (Kd.C_F (Kd.heap_int .u64) HR0.out) (by repeat (first | (with_reducible first | exact HB.out | apply below_alloc | apply pw_below_drewN | apply below_drew1 | refine below_set ?_ GE315.out | refine below_set ?_ GE316.out) | exact HB.out)))); rintro e w21 ⟨v319, rfl, ho0, hb⟩; refine ⟨_, rfl, ?_⟩; have n0_ := Aside0.mk (Kd.V_lower (Kd.V_mono (ok' := fun k_ => k_ ≠ gb315 ∧ k_ ≠ gb316) ho0 (fun k_ hk_ => ⟨Or.elim hk_ (fun hs_ => fun e_ => Nat.not_le.2 hs_ (by rw [e_]; exact GW315.out)) (fun hn_ => (Kd.freshB (g := gb315) (o := .cells #[.slice A0 l0.length c0, .int .i64 a1] 28 (0, 0)) (by (with_reducible repeat (first | refine blk_drewN ?_ _ | refine blk_drew ?_ | refine blk_alloc ?_ _)); exact BK315.out) k_ hn_)), Or.elim hk_ (fun hs_ => fun e_ => Nat.not_le.2 hs_ (by rw [e_]; exact GW316.out)) (fun hn_ => (Kd.freshB (g := gb316) (o := .cells #[.slice A0 l0.length c0, .int .i64 a1] 29 (0, 0)) (by (with_reducible repeat (first | refine blk_drewN ?_ _ | refine blk_drew ?_ | refine blk_alloc ?_ _)); exact BK316.out) k_ hn_))⟩)) (below_size (by repeat (first | (with_reducible first | exact HB.out | apply below_alloc | apply pw_below_drewN | apply below_drew1 | refine below_set ?_ GE315.out | refine below_set ?_ GE316.out) | exact HB.out)))); have n1_ := Aside0.mk (blk_below (g := gb315) (o := .cells #[.slice A0 l0.length c0, .int .i64 a1] 28 (0, 0)) (by (with_reducible repeat (first | refine blk_drewN ?_ _ | refine blk_drew ?_ | refine blk_alloc ?_ _)); exact BK315.out) hb); have n2_ := Aside0.mk (blk_below (g := gb316) (o := .cells #[.slice A0 l0.length c0, .int .i64 a1] 29 (0, 0)) (by (with_reducible repeat (first | refine blk_drewN ?_ _ | refine blk_drew ?_ | refine blk_alloc ?_ _)); exact BK316.out) hb); have n3_ := Aside0.mk (below_step (by repeat (first | (with_reducible first | exact HB.out | apply below_alloc | apply pw_below_drewN | apply below_drew1 | refine below_set ?_ GE315.out | refine below_set ?_ GE316.out) | exact HB.out)) hb); clear BK315; clear BK316; clear HB; have HO320 := n0_; have BK315 := n1_; have BK316 := n2_; have HB := n3_; clear n0_ n1_ n2_ n3_; (try clear hb); (try clear hb2); (try clear hk); (try clear hi); (try clear ho0)) | ((with_reducible refine gate_dst (N := 12) rfl ?_); (try (refine gate_guard (by rfl) ?_; dsimp only)); refine box_event ?hg (N := 12) ?hd (cs := #[.slice none 0 0, .int .i64 0]) (t := 28) ?hr ?_; (case hd => rfl); (case hg => rfl); (case hr => first | (go_simp; done) | (go_simp; rfl)); intro gb323 hg w22 hbox hb; have n0_ := Aside0.mk (Kd.V_below (Kd.V_elderB (by (with_reducible repeat (first | apply Kd.V_alloc | apply Kd.V_drewN | apply Kd.V_drew)); exact HO320.out) gb323 (Nat.le_of_eq hg.symm)) hb); have n1_ := Aside0.mk (blk_below (g := gb315) (o := .cells #[.slice A0 l0.length c0, .int .i64 a1] 28 (0, 0)) (by (with_reducible repeat (first | refine blk_drewN ?_ _ | refine blk_drew ?_ | refine blk_alloc ?_ _)); exact BK315.out) hb); have n2_ := Aside0.mk (blk_below (g := gb316) (o := .cells #[.slice A0 l0.length c0, .int .i64 a1] 29 (0, 0)) (by (with_reducible repeat (first | refine blk_drewN ?_ _ | refine blk_drew ?_ | refine blk_alloc ?_ _)); exact BK316.out) hb); have n3_ := Aside0.mk (below_step (by repeat (first | (with_reducible first | exact HB.out | apply below_alloc | apply pw_below_drewN | apply below_drew1 | refine below_set ?_ GE315.out | refine below_set ?_ GE316.out) | exact HB.out)) hb); have n4_ := Aside0.mk (hbox); have n5_ := Aside0.mk ((by rw [hg]; exact (below_size (by repeat (first | (with_reducible first | exact HB.out | apply below_alloc | apply pw_below_drewN | apply below_drew1 | refine below_set ?_ GE315.out | refine below_set ?_ GE316.out) | exact HB.out))) : w.heap.size ≤ gb323)); have n6_ := Aside0.mk ((by rw [hg]; exact (below_size (by repeat (first | (with_reducible first | exact HB.out | apply below_alloc | apply pw_below_drewN | apply below_drew1 | refine below_set ?_ GE315.out | refine below_set ?_ GE316.out) | exact HB.out))) : w.heap.size ≤ gb323)); have n7_ := Aside0.mk ((by rw [hg]; exact Nat.ne_of_lt (blk_lt (g := gb315) (o := .cells #[.slice A0 l0.length c0, .int .i64 a1] 28 (0, 0)) (by (with_reducible repeat (first | refine blk_drewN ?_ _ | refine blk_drew ?_ | refine blk_alloc ?_ _)); exact BK315.out)) : gb315 ≠ gb323)); have n8_ := Aside0.mk ((by rw [hg]; exact Nat.ne_of_gt (blk_lt (g := gb315) (o := .cells #[.slice A0 l0.length c0, .int .i64 a1] 28 (0, 0)) (by (with_reducible repeat (first | refine blk_drewN ?_ _ | refine blk_drew ?_ | refine blk_alloc ?_ _)); exact BK315.out)) : gb323 ≠ gb315)); have n9_ := Aside0.mk ((by rw [hg]; exact Nat.ne_of_lt (blk_lt (g := gb316) (o := .cells #[.slice A0 l0.length c0, .int .i64 a1] 29 (0, 0)) (by (with_reducible repeat (first | refine blk_drewN ?_ _ | refine blk_drew ?_ | refine blk_alloc ?_ _)); exact BK316.out)) : gb316 ≠ gb323)); have n10_ := Aside0.mk ((by rw [hg]; exact Nat.ne_of_gt (blk_lt (g := gb316) (o := .cells #[.slice A0 l0.length c0, .int .i64 a1] 29 (0, 0)) (by (with_reducible repeat (first | refine blk_drewN ?_ _ | refine blk_drew ?_ | refine blk_alloc ?_ _)); exact BK316.out)) : gb323 ≠ gb316)); clear HO320; clear BK315; clear BK316; clear HB; have HO320 := n0_; have BK315 := n1_; have BK316 := n2_; have HB := n3_; have BK323 := n4_; have GW323 := n5_; have GE323 := n6_; have NB315_323 := n7_; have NB323_315 := n8_; have NB316_323 := n9_; have NB323_316 := n10_; clear n0_ n1_ n2_ n3_ n4_ n5_ n6_ n7_ n8_ n9_ n10_; clear hb hbox hg; obtain ⟨Ao23, co23, eo23⟩ := Kd.V_slice HO320.out; subst eo23; have hnb24 := NB323_315.out; have hnc24 := NB315_323.out; have hnb25 := NB323_316.out; have hnc25 := NB316_323.out; have hcz26_0 : w22.cell? ⟨gb323, 0, none⟩ = some (.slice none 0 0) := (blk_cell BK323.out 0).trans rfl; have hcz26_1 : w22.cell? ⟨gb323, 1, none⟩ = some (.int .i64 0) := (blk_cell BK323.out 1).trans rfl; have hfz26_0 := blk_frozen BK323.out 0; have hfz26_1 := blk_frozen BK323.out 1))
    have n0_ : Aside0 (Kd.V (Kd.int .u64) 23 ((w22.setCell ⟨gb323, 0, none⟩ (.slice Ao23 t318.length co23)).setCell ⟨gb323, 1, none⟩ (.int .i64 t321)) w.heap.size (fun k_ => k_ ≠ gb315 ∧ k_ ≠ gb316 ∧ k_ ≠ gb323) (.slice Ao23 t318.length co23) t318) := ⟨by (with_reducible repeat (first | apply Kd.V_alloc | apply Kd.V_drewN | apply Kd.V_drew)); exact Kd.V_mono (Kd.V_far (p := ⟨gb323, 1, none⟩) (Kd.V_far (p := ⟨gb323, 0, none⟩) (Kd.V_mono HO320.out (fun k_ hk => (⟨hk, hk.2⟩ : _ ∧ k_ ≠ gb323))) (fun _ hk => hk.2) (.slice Ao23 t318.length co23)) (fun _ hk => hk.2) (.int .i64 t321)) (fun _ hk => ⟨hk.1.1.1, ⟨hk.1.1.2, hk.1.2⟩⟩)⟩
    have n1_ : Aside0 (((w22.setCell ⟨gb323, 0, none⟩ (.slice Ao23 t318.length co23)).setCell ⟨gb323, 1, none⟩ (.int .i64 t321)).heap[gb315]? = some (.cells #[.slice A0 l0.length c0, .int .i64 a1] 28 (0, 0))) := ⟨by (with_reducible repeat (first | refine blk_drewN ?_ _ | refine blk_drew ?_ | refine blk_alloc ?_ _)); refine blk_far ?_ NB315_323.out _; (with_reducible repeat (first | refine blk_drewN ?_ _ | refine blk_drew ?_ | refine blk_alloc ?_ _)); refine blk_far ?_ NB315_323.out _; (with_reducible repeat (first | refine blk_drewN ?_ _ | refine blk_drew ?_ | refine blk_alloc ?_ _)); exact BK315.out⟩
    have n2_ : Aside0 (((w22.setCell ⟨gb323, 0, none⟩ (.slice Ao23 t318.length co23)).setCell ⟨gb323, 1, none⟩ (.int .i64 t321)).heap[gb316]? = some (.cells #[.slice A0 l0.length c0, .int .i64 a1] 29 (0, 0))) := ⟨by (with_reducible repeat (first | refine blk_drewN ?_ _ | refine blk_drew ?_ | refine blk_alloc ?_ _)); refine blk_far ?_ NB316_323.out _; (with_reducible repeat (first | refine blk_drewN ?_ _ | refine blk_drew ?_ | refine blk_alloc ?_ _)); refine blk_far ?_ NB316_323.out _; (with_reducible repeat (first | refine blk_drewN ?_ _ | refine blk_drew ?_ | refine blk_alloc ?_ _)); exact BK316.out⟩
    have n3_ : Aside0 (((w22.setCell ⟨gb323, 0, none⟩ (.slice Ao23 t318.length co23)).setCell ⟨gb323, 1, none⟩ (.int .i64 t321)).heap[gb323]? = some (.cells #[.slice Ao23 t318.length co23, .int .i64 t321] 28 (0, 0))) := ⟨by (with_reducible repeat (first | refine blk_drewN ?_ _ | refine blk_drew ?_ | refine blk_alloc ?_ _)); refine blk_put (cs := #[.slice Ao23 t318.length co23, .int .i64 0]) ?_ 1 _ rfl; (with_reducible repeat (first | refine blk_drewN ?_ _ | refine blk_drew ?_ | refine blk_alloc ?_ _)); refine blk_put (cs := #[.slice none 0 0, .int .i64 0]) ?_ 0 _ rfl; (with_reducible repeat (first | refine blk_drewN ?_ _ | refine blk_drew ?_ | refine blk_alloc ?_ _)); exact BK323.out⟩
    have n4_ : Aside0 (Below w.heap.size w ((w22.setCell ⟨gb323, 0, none⟩ (.slice Ao23 t318.length co23)).setCell ⟨gb323, 1, none⟩ (.int .i64 t321))) := ⟨by repeat (first | (with_reducible first | exact HB.out | apply below_alloc | apply pw_below_drewN | apply below_drew1 | refine below_set ?_ GE315.out | refine below_set ?_ GE316.out | refine below_set ?_ GE323.out) | exact HB.out)⟩
    (try clear HO320)
    (try clear BK315)
    (try clear BK316)
    (try clear BK323)
    (try clear HB)
    generalize ((w22.setCell ⟨gb323, 0, none⟩ (.slice Ao23 t318.length co23)).setCell ⟨gb323, 1, none⟩ (.int .i64 t321)) = w27 at n0_ n1_ n2_ n3_ n4_ ⊢
    have HO320 := n0_
    have BK315 := n1_
    have BK316 := n2_
    have BK323 := n3_
    have HB := n4_
    clear n0_ n1_ n2_ n3_ n4_
    have n0_ := Aside0.mk (Kd.V_drew HO320.out)
    have n1_ := Aside0.mk (blk_drew BK315.out)
    have n2_ := Aside0.mk (blk_drew BK316.out)
    have n3_ := Aside0.mk (blk_drew BK323.out)
    have n4_ := Aside0.mk (below_drew1 HB.out)
    clear HO320
    clear BK315
    clear BK316
    clear BK323
    clear HB
    have HO320 := n0_
    have BK315 := n1_
    have BK316 := n2_
    have BK323 := n3_
    have HB := n4_
    clear n0_ n1_ n2_ n3_ n4_
    refine start_ (n := 12) (S := fun w' => w'.cell? ⟨gb316, 0, none⟩ = some (.slice A0 l0.length c0) ∧ w'.cell? ⟨gb316, 1, none⟩ = some (.int .i64 a1)) (ds := []) #[false, false, false, false, false, false, false, false, false, false, false, false] (by kernel_rfl) rfl rfl ⟨(blk_cell BK316.out 0).trans rfl, (blk_cell BK316.out 1).trans rfl⟩ (fun hHeld => ?_); refine with_tabW samphirelaw07_DrawTells.tab6 samphirelaw07_DrawTells.bits6 (fun HT_ HW_ => ?_)
    generalize w27.drew = w28 at HO320 BK315 BK316 BK323 HB hHeld ⊢
    refine pure_ (i := 1) (N := some 48) (v := ?_) (a' := ?_) #[false, true, false, false, false, false, false, false, false, false, false, false] rfl rfl (any_of HT_.out (by kernel_rfl)) (fun _ _ _ h => h) (Or.inl ⟨by rfl, ?_⟩) ?_ ?_
    rotate_left
    ·
     intro w'
     go_simp
     with_reducible rfl
    rotate_left
    ·
     simp only [Act.put, List.setIfInBounds_toArray, List.set_cons_zero, List.set_cons_succ, i64_w, i32_w]
     rfl
    refine take_ (i := 0) (N := some 47) (v := ?_) (a' := ?_) #[true, true, false, false, false, false, false, false, false, false, false, false] rfl rfl (take_ofW HT_.out HW_.out (by kernel_rfl)) (fun _ _ _ h => h) (Or.inl ⟨by rfl, ?_⟩) hHeld ?_ ?_
    rotate_left
    ·
     rintro w' ⟨s0, s1⟩
     go_simp
     with_reducible rfl
    rotate_left
    ·
     simp only [Act.put, List.setIfInBounds_toArray, List.set_cons_zero, List.set_cons_succ, i64_w, i32_w]
     rfl
    refine join_ (σ := Value × Value × Value × Nat) 3 #[true, true, true, true, true, true, true, true, true, false, false, false] (fun s_ => [(49, s_.1), (50, .tuple #[s_.2.1, .agg #[s_.2.2.1, .int .i64 t333], .int .i64 t334]), (15, .pointer (some ⟨s_.2.2.2, 0, none⟩)), (46, .tuple #[s_.2.1, .agg #[s_.2.2.1, .int .i64 t333], .int .i64 t334]), (51, s_.2.1), (52, .agg #[s_.2.2.1, .int .i64 t333]), (53, .int .i64 t334)]) (fun s_ w' => (w'.cell? ⟨gb316, 0, none⟩ = some (.slice A0 l0.length c0) ∧ w'.cell? ⟨gb316, 1, none⟩ = some (.int .i64 a1)) ∧ (Kd.V (Kd.int .u64) 23 w' w.heap.size (fun k_ => some k_ ≠ (s_.1 : Value).ownBlock ∧ some k_ ≠ (s_.2.1 : Value).ownBlock ∧ k_ ≠ gb315 ∧ k_ ≠ gb316 ∧ k_ ≠ gb323 ∧ k_ ≠ s_.2.2.2) (.slice Ao23 t318.length co23) t318) ∧ (Kd.R (Kd.int .u32) 48 w' w.heap.size (fun k_ => some k_ ≠ (s_.2.1 : Value).ownBlock) s_.1 t324) ∧ (Kd.R (Kd.int .u32) 48 w' w.heap.size (fun k_ => some k_ ≠ (s_.1 : Value).ownBlock) s_.2.1 t327) ∧ (Kd.V (Kd.int .u64) 23 w' w.heap.size (fun k_ => some k_ ≠ (s_.1 : Value).ownBlock ∧ some k_ ≠ (s_.2.1 : Value).ownBlock ∧ k_ ≠ gb315 ∧ k_ ≠ gb316 ∧ k_ ≠ gb323 ∧ k_ ≠ s_.2.2.2) s_.2.2.1 t330) ∧ (w'.heap[gb315]? = some (.cells #[.slice A0 l0.length c0, .int .i64 a1] 28 (0, 0))) ∧ (w'.heap[gb316]? = some (.cells #[.slice A0 l0.length c0, .int .i64 a1] 29 (0, 0))) ∧ (w'.heap[gb323]? = some (.cells #[.slice Ao23 t318.length co23, .int .i64 t321] 28 (0, 0))) ∧ (w'.heap[s_.2.2.2]? = some (.cells #[.slice none 0 0, .int .i64 0] 29 (0, 0))) ∧ (w.heap.size ≤ s_.2.2.2) ∧ (w.heap.size ≤ s_.2.2.2) ∧ (gb315 ≠ s_.2.2.2) ∧ (s_.2.2.2 ≠ gb315) ∧ (gb316 ≠ s_.2.2.2) ∧ (s_.2.2.2 ≠ gb316) ∧ (gb323 ≠ s_.2.2.2) ∧ (s_.2.2.2 ≠ gb323) ∧ (Below w.heap.size w w')) ?_ ?_
    rotate_left
    ·
     intro hCont
     refine two_ (i := 2) (j := 8) (Ni := some 49) (Nj := some 15) #[true, true, true, false, false, false, false, false, false, false, false, false] #[true, true, false, false, false, false, false, false, true, false, false, false] rfl rfl rfl rfl (two_of HT_.out (by kernel_rfl)) (by decide) (by decide) (fun K hK => ?_) (fun K hK => ?_)
     ·
      skip
      refine goes_ Try.func12 (by kernel_rfl) rfl #[.int .u64 a2] (by rfl) rfl rfl (by (try simp only [List.map_toArray, List.map_cons, List.map_nil]); first | done | rfl | (simp only [List.length_drop, List.length_take]; rfl)) ?_
      with_reducible refine (samphireref02_Of.calls kj4 a2 t324 _ A11.out).mono ?_
      rintro e w29 ⟨v325, rfl, ho0, hb⟩
      refine ⟨_, rfl, ?_⟩
      have n0_ := Aside0.mk (Kd.V_elder' (by (with_reducible repeat (first | apply Kd.V_alloc | apply Kd.V_drewN | apply Kd.V_drew)); exact HO320.out) (Kd.R_base ho0) hb)
      have n1_ := Aside0.mk (Kd.R_lower ho0 (below_size (by repeat (first | (with_reducible first | exact HB.out | apply below_alloc | apply pw_below_drewN | apply below_drew1 | refine below_set ?_ GE315.out | refine below_set ?_ GE316.out | refine below_set ?_ GE323.out) | exact HB.out))))
      have n2_ := Aside0.mk (blk_below (g := gb315) (o := .cells #[.slice A0 l0.length c0, .int .i64 a1] 28 (0, 0)) (by (with_reducible repeat (first | refine blk_drewN ?_ _ | refine blk_drew ?_ | refine blk_alloc ?_ _)); exact BK315.out) hb)
      have n3_ := Aside0.mk (blk_below (g := gb316) (o := .cells #[.slice A0 l0.length c0, .int .i64 a1] 29 (0, 0)) (by (with_reducible repeat (first | refine blk_drewN ?_ _ | refine blk_drew ?_ | refine blk_alloc ?_ _)); exact BK316.out) hb)
      have n4_ := Aside0.mk (blk_below (g := gb323) (o := .cells #[.slice Ao23 t318.length co23, .int .i64 t321] 28 (0, 0)) (by (with_reducible repeat (first | refine blk_drewN ?_ _ | refine blk_drew ?_ | refine blk_alloc ?_ _)); exact BK323.out) hb)
      have n5_ := Aside0.mk (below_step (by repeat (first | (with_reducible first | exact HB.out | apply below_alloc | apply pw_below_drewN | apply below_drew1 | refine below_set ?_ GE315.out | refine below_set ?_ GE316.out | refine below_set ?_ GE323.out) | exact HB.out)) hb)
      clear HO320
      clear BK315
      clear BK316
      clear BK323
      clear HB
      have HO320 := n0_
      have HO326 := n1_
      have BK315 := n2_
      have BK316 := n3_
      have BK323 := n4_
      have HB := n5_
      clear n0_ n1_ n2_ n3_ n4_ n5_
      (try clear hb)
      (try clear hb2)
      (try clear hk)
      (try clear hi)
      (try clear ho0)
      obtain ⟨Ao30, co30, eo30⟩ := Kd.R_slice HO326.out
      (first | subst eo30 | (injection eo30 with f1_ f2_ f3_; have f4_ := f1_.symm; have f5_ := f3_.symm; clear f1_ f2_ f3_; subst f4_; subst f5_))
      refine hK.out _ _ ⟨(blk_cell BK316.out 0).trans rfl, (blk_cell BK316.out 1).trans rfl⟩ (fun hHeld => ?_)
      clear hK K
      refine norm_ (a' := ?_) ?_ ?_
      rotate_left
      ·
       show Act.put _ (some 49) _ = _
       simp only [Act.put, List.setIfInBounds_toArray, List.set_cons_zero, List.set_cons_succ, i64_w, i32_w]
       rfl
      refine two_ (i := 3) (j := 8) (Ni := some 50) (Nj := some 15) #[true, true, true, true, false, false, false, false, false, false, false, false] #[true, true, true, false, false, false, false, false, true, false, false, false] rfl rfl rfl rfl (two_of HT_.out (by kernel_rfl)) (by decide) (by decide) (fun K hK => ?_) (fun K hK => ?_)
      ·
       skip
       refine goes_ Try.func11 (by kernel_rfl) rfl #[.agg #[.slice A0 l0.length c0, .int .i64 a1], .slice Ao30 t324.length co30] (by rfl) rfl rfl (by (try simp only [List.map_toArray, List.map_cons, List.map_nil]); first | done | rfl | (simp only [List.length_drop, List.length_take]; rfl)) ?_
       with_reducible refine (samphireref07_Below.calls kj4 (fun k_ => k_ < w.heap.size) _ _ l0 a1 _ _ t324 t327 t330 t333 t334 _ ?side1 ?side2 ?side3 A12.out).mono ?_
       (case side1 => exact Kd.V_mk HC0.out (Kd.F_below (Kd.C_F (Kd.heap_int .u64) HR0.out) (by repeat (first | (with_reducible first | exact HB.out | apply below_alloc | apply pw_below_drewN | apply below_drew1 | refine below_set ?_ GE315.out | refine below_set ?_ GE316.out | refine below_set ?_ GE323.out) | exact HB.out))))
       (case side2 => repeat (first | exact (Kd.R_reads' HO326.out).2.2 | (with_reducible refine Kd.C_alloc ?_ _) | (with_reducible refine Kd.C_drewN ?_ _) | (with_reducible refine Kd.C_drew ?_)))
       (case side3 => exact (Kd.R_reads' HO326.out).2.1)
       rintro e w31 ⟨v328, v331, rfl, ho0, ho1, hb⟩
       refine ⟨_, rfl, ?_⟩
       have n0_ := Aside0.mk (Kd.V_elder' (by (with_reducible repeat (first | apply Kd.V_alloc | apply Kd.V_drewN | apply Kd.V_drew)); exact HO320.out) (Kd.R_base ho0) hb)
       have n1_ := Aside0.mk (Kd.R_elder' (by (with_reducible repeat (first | apply Kd.R_alloc | apply Kd.R_drewN | apply Kd.R_drew)); exact HO326.out) (Kd.R_base ho0) hb)
       have n2_ := Aside0.mk (Kd.R_lower (Kd.R_new' (Kd.R_mono (ok' := fun k_ => True) ho0 (fun _ hk_ => trivial)) (Kd.R_lt (by (with_reducible repeat (first | apply Kd.R_alloc | apply Kd.R_drewN | apply Kd.R_drew)); exact HO326.out))) (below_size (by repeat (first | (with_reducible first | exact HB.out | apply below_alloc | apply pw_below_drewN | apply below_drew1 | refine below_set ?_ GE315.out | refine below_set ?_ GE316.out | refine below_set ?_ GE323.out) | exact HB.out))))
       have n3_ := Aside0.mk (Kd.V_lower (Kd.V_mono (ok' := fun k_ => some k_ ≠ (v328 : Value).ownBlock ∧ some k_ ≠ (.slice Ao30 t324.length co30 : Value).ownBlock ∧ k_ ≠ gb315 ∧ k_ ≠ gb316 ∧ k_ ≠ gb323) ho1 (fun k_ hk_ => ⟨hk_.2, Or.elim hk_.1 (fun hs_ => fun e_ => Nat.not_le.2 hs_ (Kd.R_base HO326.out k_ e_.symm)) (fun hn_ => (Kd.fresh' (Kd.R_lt (by (with_reducible repeat (first | apply Kd.R_alloc | apply Kd.R_drewN | apply Kd.R_drew)); exact HO326.out)) k_ hn_)), Or.elim hk_.1 (fun hs_ => fun e_ => Nat.not_le.2 hs_ (by rw [e_]; exact GW315.out)) (fun hn_ => (Kd.freshB (g := gb315) (o := .cells #[.slice A0 l0.length c0, .int .i64 a1] 28 (0, 0)) (by (with_reducible repeat (first | refine blk_drewN ?_ _ | refine blk_drew ?_ | refine blk_alloc ?_ _)); exact BK315.out) k_ hn_)), Or.elim hk_.1 (fun hs_ => fun e_ => Nat.not_le.2 hs_ (by rw [e_]; exact GW316.out)) (fun hn_ => (Kd.freshB (g := gb316) (o := .cells #[.slice A0 l0.length c0, .int .i64 a1] 29 (0, 0)) (by (with_reducible repeat (first | refine blk_drewN ?_ _ | refine blk_drew ?_ | refine blk_alloc ?_ _)); exact BK316.out) k_ hn_)), Or.elim hk_.1 (fun hs_ => fun e_ => Nat.not_le.2 hs_ (by rw [e_]; exact GW323.out)) (fun hn_ => (Kd.freshB (g := gb323) (o := .cells #[.slice Ao23 t318.length co23, .int .i64 t321] 28 (0, 0)) (by (with_reducible repeat (first | refine blk_drewN ?_ _ | refine blk_drew ?_ | refine blk_alloc ?_ _)); exact BK323.out) k_ hn_))⟩)) (below_size (by repeat (first | (with_reducible first | exact HB.out | apply below_alloc | apply pw_below_drewN | apply below_drew1 | refine below_set ?_ GE315.out | refine below_set ?_ GE316.out | refine below_set ?_ GE323.out) | exact HB.out))))
       have n4_ := Aside0.mk (blk_below (g := gb315) (o := .cells #[.slice A0 l0.length c0, .int .i64 a1] 28 (0, 0)) (by (with_reducible repeat (first | refine blk_drewN ?_ _ | refine blk_drew ?_ | refine blk_alloc ?_ _)); exact BK315.out) hb)
       have n5_ := Aside0.mk (blk_below (g := gb316) (o := .cells #[.slice A0 l0.length c0, .int .i64 a1] 29 (0, 0)) (by (with_reducible repeat (first | refine blk_drewN ?_ _ | refine blk_drew ?_ | refine blk_alloc ?_ _)); exact BK316.out) hb)
       have n6_ := Aside0.mk (blk_below (g := gb323) (o := .cells #[.slice Ao23 t318.length co23, .int .i64 t321] 28 (0, 0)) (by (with_reducible repeat (first | refine blk_drewN ?_ _ | refine blk_drew ?_ | refine blk_alloc ?_ _)); exact BK323.out) hb)
       have n7_ := Aside0.mk (below_step (by repeat (first | (with_reducible first | exact HB.out | apply below_alloc | apply pw_below_drewN | apply below_drew1 | refine below_set ?_ GE315.out | refine below_set ?_ GE316.out | refine below_set ?_ GE323.out) | exact HB.out)) hb)
       clear HO320
       clear HO326
       clear BK315
       clear BK316
       clear BK323
       clear HB
       have HO320 := n0_
       have HO326 := n1_
       have HO329 := n2_
       have HO332 := n3_
       have BK315 := n4_
       have BK316 := n5_
       have BK323 := n6_
       have HB := n7_
       clear n0_ n1_ n2_ n3_ n4_ n5_ n6_ n7_
       (try clear hb)
       (try clear hb2)
       (try clear hk)
       (try clear hi)
       (try clear ho0)
       (try clear ho1)
       refine hK.out _ _ ⟨(blk_cell BK316.out 0).trans rfl, (blk_cell BK316.out 1).trans rfl⟩ (fun hHeld => ?_)
       clear hK K
       refine norm_ (a' := ?_) ?_ ?_
       rotate_left
       ·
        show Act.put _ (some 50) _ = _
        simp only [Act.put, List.setIfInBounds_toArray, List.set_cons_zero, List.set_cons_succ, i64_w, i32_w]
        rfl
       refine pure_ (i := 4) (N := some 46) (v := ?_) (a' := ?_) #[true, true, true, true, true, false, false, false, false, false, false, false] rfl rfl (any_of HT_.out (by kernel_rfl)) (fun _ _ _ h => h) (Or.inl ⟨by rfl, ?_⟩) ?_ ?_
       rotate_left
       ·
        intro w'
        go_simp
        with_reducible rfl
       rotate_left
       ·
        simp only [Act.put, List.setIfInBounds_toArray, List.set_cons_zero, List.set_cons_succ, i64_w, i32_w]
        rfl
       refine pure_ (i := 5) (N := some 51) (v := ?_) (a' := ?_) #[true, true, true, true, true, true, false, false, false, false, false, false] rfl rfl (any_of HT_.out (by kernel_rfl)) (fun _ _ _ h => h) (Or.inl ⟨by rfl, ?_⟩) ?_ ?_
       rotate_left
       ·
        intro w'
        go_simp
        with_reducible rfl
       rotate_left
       ·
        simp only [Act.put, List.setIfInBounds_toArray, List.set_cons_zero, List.set_cons_succ, i64_w, i32_w]
        rfl
       refine pure_ (i := 6) (N := some 52) (v := ?_) (a' := ?_) #[true, true, true, true, true, true, true, false, false, false, false, false] rfl rfl (any_of HT_.out (by kernel_rfl)) (fun _ _ _ h => h) (Or.inl ⟨by rfl, ?_⟩) ?_ ?_
       rotate_left
       ·
        intro w'
        go_simp
        with_reducible rfl
       rotate_left
       ·
        simp only [Act.put, List.setIfInBounds_toArray, List.set_cons_zero, List.set_cons_succ, i64_w, i32_w]
        rfl
       refine pure_ (i := 7) (N := some 53) (v := ?_) (a' := ?_) #[true, true, true, true, true, true, true, true, false, false, false, false] rfl rfl (any_of HT_.out (by kernel_rfl)) (fun _ _ _ h => h) (Or.inl ⟨by rfl, ?_⟩) ?_ ?_
       rotate_left
       ·
        intro w'
        go_simp
        with_reducible rfl
       rotate_left
       ·
        simp only [Act.put, List.setIfInBounds_toArray, List.set_cons_zero, List.set_cons_succ, i64_w, i32_w]
        rfl
       refine one_ (i := 8) (N := some 15) #[true, true, true, true, true, true, true, true, true, false, false, false] rfl rfl (one_of HT_.out (by kernel_rfl)) (by decide) (fun K hK => ?_)
       refine box_step ?hg (N := 15) ?hd (cs := #[.slice none 0 0, .int .i64 0]) (t := 29) ?hr ?_; (case hd => rfl); (case hg => rfl); (case hr => first | (go_simp; done) | (go_simp; rfl))
       intro gb335 hg w32 hbox hb
       have n0_ := Aside0.mk (Kd.V_below (Kd.V_elderB (by (with_reducible repeat (first | apply Kd.V_alloc | apply Kd.V_drewN | apply Kd.V_drew)); exact HO320.out) gb335 (Nat.le_of_eq hg.symm)) hb)
       have n1_ := Aside0.mk (Kd.R_below (by (with_reducible repeat (first | apply Kd.R_alloc | apply Kd.R_drewN | apply Kd.R_drew)); exact HO326.out) hb)
       have n2_ := Aside0.mk (Kd.R_below (by (with_reducible repeat (first | apply Kd.R_alloc | apply Kd.R_drewN | apply Kd.R_drew)); exact HO329.out) hb)
       have n3_ := Aside0.mk (Kd.V_below (Kd.V_elderB (by (with_reducible repeat (first | apply Kd.V_alloc | apply Kd.V_drewN | apply Kd.V_drew)); exact HO332.out) gb335 (Nat.le_of_eq hg.symm)) hb)
       have n4_ := Aside0.mk (blk_below (g := gb315) (o := .cells #[.slice A0 l0.length c0, .int .i64 a1] 28 (0, 0)) (by (with_reducible repeat (first | refine blk_drewN ?_ _ | refine blk_drew ?_ | refine blk_alloc ?_ _)); exact BK315.out) hb)
       have n5_ := Aside0.mk (blk_below (g := gb316) (o := .cells #[.slice A0 l0.length c0, .int .i64 a1] 29 (0, 0)) (by (with_reducible repeat (first | refine blk_drewN ?_ _ | refine blk_drew ?_ | refine blk_alloc ?_ _)); exact BK316.out) hb)
       have n6_ := Aside0.mk (blk_below (g := gb323) (o := .cells #[.slice Ao23 t318.length co23, .int .i64 t321] 28 (0, 0)) (by (with_reducible repeat (first | refine blk_drewN ?_ _ | refine blk_drew ?_ | refine blk_alloc ?_ _)); exact BK323.out) hb)
       have n7_ := Aside0.mk (below_step (by repeat (first | (with_reducible first | exact HB.out | apply below_alloc | apply pw_below_drewN | apply below_drew1 | refine below_set ?_ GE315.out | refine below_set ?_ GE316.out | refine below_set ?_ GE323.out) | exact HB.out)) hb)
       have n8_ := Aside0.mk (hbox)
       have n9_ := Aside0.mk ((by rw [hg]; exact (below_size (by repeat (first | (with_reducible first | exact HB.out | apply below_alloc | apply pw_below_drewN | apply below_drew1 | refine below_set ?_ GE315.out | refine below_set ?_ GE316.out | refine below_set ?_ GE323.out) | exact HB.out))) : w.heap.size ≤ gb335))
       have n10_ := Aside0.mk ((by rw [hg]; exact (below_size (by repeat (first | (with_reducible first | exact HB.out | apply below_alloc | apply pw_below_drewN | apply below_drew1 | refine below_set ?_ GE315.out | refine below_set ?_ GE316.out | refine below_set ?_ GE323.out) | exact HB.out))) : w.heap.size ≤ gb335))
       have n11_ := Aside0.mk ((by rw [hg]; exact Nat.ne_of_lt (blk_lt (g := gb315) (o := .cells #[.slice A0 l0.length c0, .int .i64 a1] 28 (0, 0)) (by (with_reducible repeat (first | refine blk_drewN ?_ _ | refine blk_drew ?_ | refine blk_alloc ?_ _)); exact BK315.out)) : gb315 ≠ gb335))
       have n12_ := Aside0.mk ((by rw [hg]; exact Nat.ne_of_gt (blk_lt (g := gb315) (o := .cells #[.slice A0 l0.length c0, .int .i64 a1] 28 (0, 0)) (by (with_reducible repeat (first | refine blk_drewN ?_ _ | refine blk_drew ?_ | refine blk_alloc ?_ _)); exact BK315.out)) : gb335 ≠ gb315))
       have n13_ := Aside0.mk ((by rw [hg]; exact Nat.ne_of_lt (blk_lt (g := gb316) (o := .cells #[.slice A0 l0.length c0, .int .i64 a1] 29 (0, 0)) (by (with_reducible repeat (first | refine blk_drewN ?_ _ | refine blk_drew ?_ | refine blk_alloc ?_ _)); exact BK316.out)) : gb316 ≠ gb335))
       have n14_ := Aside0.mk ((by rw [hg]; exact Nat.ne_of_gt (blk_lt (g := gb316) (o := .cells #[.slice A0 l0.length c0, .int .i64 a1] 29 (0, 0)) (by (with_reducible repeat (first | refine blk_drewN ?_ _ | refine blk_drew ?_ | refine blk_alloc ?_ _)); exact BK316.out)) : gb335 ≠ gb316))
       have n15_ := Aside0.mk ((by rw [hg]; exact Nat.ne_of_lt (blk_lt (g := gb323) (o := .cells #[.slice Ao23 t318.length co23, .int .i64 t321] 28 (0, 0)) (by (with_reducible repeat (first | refine blk_drewN ?_ _ | refine blk_drew ?_ | refine blk_alloc ?_ _)); exact BK323.out)) : gb323 ≠ gb335))
       have n16_ := Aside0.mk ((by rw [hg]; exact Nat.ne_of_gt (blk_lt (g := gb323) (o := .cells #[.slice Ao23 t318.length co23, .int .i64 t321] 28 (0, 0)) (by (with_reducible repeat (first | refine blk_drewN ?_ _ | refine blk_drew ?_ | refine blk_alloc ?_ _)); exact BK323.out)) : gb335 ≠ gb323))
       clear HO320
       clear HO326
       clear HO329
       clear HO332
       clear BK315
       clear BK316
       clear BK323
       clear HB
       have HO320 := n0_
       have HO326 := n1_
       have HO329 := n2_
       have HO332 := n3_
       have BK315 := n4_
       have BK316 := n5_
       have BK323 := n6_
       have HB := n7_
       have BK335 := n8_
       have GW335 := n9_
       have GE335 := n10_
       have NB315_335 := n11_
       have NB335_315 := n12_
       have NB316_335 := n13_
       have NB335_316 := n14_
       have NB323_335 := n15_
       have NB335_323 := n16_
       clear n0_ n1_ n2_ n3_ n4_ n5_ n6_ n7_ n8_ n9_ n10_ n11_ n12_ n13_ n14_ n15_ n16_
       clear hb hbox hg
       refine hK.out _ _ ⟨(blk_cell BK316.out 0).trans rfl, (blk_cell BK316.out 1).trans rfl⟩ (fun hHeld => ?_)
       clear hK K
       refine norm_ (a' := ?_) ?_ ?_
       rotate_left
       ·
        show Act.put _ (some 15) _ = _
        simp only [Act.put, List.setIfInBounds_toArray, List.set_cons_zero, List.set_cons_succ, i64_w, i32_w]
        rfl
       exact norm_ (by simp only [putAll, Act.put, List.setIfInBounds_toArray, List.set_cons_zero, List.set_cons_succ]) (hCont (.slice Ao30 t324.length co30, v328, v331, gb335) _ ⟨hHeld, (by (with_reducible repeat (first | apply Kd.V_alloc | apply Kd.V_drewN | apply Kd.V_drew)); exact Kd.V_mono HO320.out (fun _ hk => ⟨hk.1.1.2, ⟨hk.1.2, ⟨hk.1.1.1.1, ⟨hk.1.1.1.2.1, ⟨hk.1.1.1.2.2, hk.2⟩⟩⟩⟩⟩)), (by (with_reducible repeat (first | apply Kd.R_alloc | apply Kd.R_drewN | apply Kd.R_drew)); exact Kd.R_mono HO326.out (fun _ hk => hk.2)), (by (with_reducible repeat (first | apply Kd.R_alloc | apply Kd.R_drewN | apply Kd.R_drew)); exact Kd.R_mono HO329.out (fun _ hk => hk.2)), (by (with_reducible repeat (first | apply Kd.V_alloc | apply Kd.V_drewN | apply Kd.V_drew)); exact Kd.V_mono HO332.out (fun _ hk => ⟨hk.1.2.1, ⟨hk.1.1, ⟨hk.1.2.2.1, ⟨hk.1.2.2.2.1, ⟨hk.1.2.2.2.2, hk.2⟩⟩⟩⟩⟩)), (by (with_reducible repeat (first | refine blk_drewN ?_ _ | refine blk_drew ?_ | refine blk_alloc ?_ _)); exact BK315.out), (by (with_reducible repeat (first | refine blk_drewN ?_ _ | refine blk_drew ?_ | refine blk_alloc ?_ _)); exact BK316.out), (by (with_reducible repeat (first | refine blk_drewN ?_ _ | refine blk_drew ?_ | refine blk_alloc ?_ _)); exact BK323.out), (by (with_reducible repeat (first | refine blk_drewN ?_ _ | refine blk_drew ?_ | refine blk_alloc ?_ _)); exact BK335.out), GW335.out, GE335.out, NB315_335.out, NB335_315.out, NB316_335.out, NB335_316.out, NB323_335.out, NB335_323.out, (by repeat (first | (with_reducible first | exact HB.out | apply below_alloc | apply pw_below_drewN | apply below_drew1 | refine below_set ?_ GE315.out | refine below_set ?_ GE316.out | refine below_set ?_ GE323.out | refine below_set ?_ GE335.out) | exact HB.out))⟩)
      ·
       skip
       refine box_step ?hg (N := 15) ?hd (cs := #[.slice none 0 0, .int .i64 0]) (t := 29) ?hr ?_; (case hd => rfl); (case hg => rfl); (case hr => first | (go_simp; done) | (go_simp; rfl))
       intro gb335 hg w30 hbox hb
       have n0_ := Aside0.mk (Kd.V_below (Kd.V_elderB (by (with_reducible repeat (first | apply Kd.V_alloc | apply Kd.V_drewN | apply Kd.V_drew)); exact HO320.out) gb335 (Nat.le_of_eq hg.symm)) hb)
       have n1_ := Aside0.mk (Kd.R_below (by (with_reducible repeat (first | apply Kd.R_alloc | apply Kd.R_drewN | apply Kd.R_drew)); exact HO326.out) hb)
       have n2_ := Aside0.mk (blk_below (g := gb315) (o := .cells #[.slice A0 l0.length c0, .int .i64 a1] 28 (0, 0)) (by (with_reducible repeat (first | refine blk_drewN ?_ _ | refine blk_drew ?_ | refine blk_alloc ?_ _)); exact BK315.out) hb)
       have n3_ := Aside0.mk (blk_below (g := gb316) (o := .cells #[.slice A0 l0.length c0, .int .i64 a1] 29 (0, 0)) (by (with_reducible repeat (first | refine blk_drewN ?_ _ | refine blk_drew ?_ | refine blk_alloc ?_ _)); exact BK316.out) hb)
       have n4_ := Aside0.mk (blk_below (g := gb323) (o := .cells #[.slice Ao23 t318.length co23, .int .i64 t321] 28 (0, 0)) (by (with_reducible repeat (first | refine blk_drewN ?_ _ | refine blk_drew ?_ | refine blk_alloc ?_ _)); exact BK323.out) hb)
       have n5_ := Aside0.mk (below_step (by repeat (first | (with_reducible first | exact HB.out | apply below_alloc | apply pw_below_drewN | apply below_drew1 | refine below_set ?_ GE315.out | refine below_set ?_ GE316.out | refine below_set ?_ GE323.out) | exact HB.out)) hb)
       have n6_ := Aside0.mk (hbox)
       have n7_ := Aside0.mk ((by rw [hg]; exact (below_size (by repeat (first | (with_reducible first | exact HB.out | apply below_alloc | apply pw_below_drewN | apply below_drew1 | refine below_set ?_ GE315.out | refine below_set ?_ GE316.out | refine below_set ?_ GE323.out) | exact HB.out))) : w.heap.size ≤ gb335))
       have n8_ := Aside0.mk ((by rw [hg]; exact (below_size (by repeat (first | (with_reducible first | exact HB.out | apply below_alloc | apply pw_below_drewN | apply below_drew1 | refine below_set ?_ GE315.out | refine below_set ?_ GE316.out | refine below_set ?_ GE323.out) | exact HB.out))) : w.heap.size ≤ gb335))
       have n9_ := Aside0.mk ((by rw [hg]; exact Nat.ne_of_lt (blk_lt (g := gb315) (o := .cells #[.slice A0 l0.length c0, .int .i64 a1] 28 (0, 0)) (by (with_reducible repeat (first | refine blk_drewN ?_ _ | refine blk_drew ?_ | refine blk_alloc ?_ _)); exact BK315.out)) : gb315 ≠ gb335))
       have n10_ := Aside0.mk ((by rw [hg]; exact Nat.ne_of_gt (blk_lt (g := gb315) (o := .cells #[.slice A0 l0.length c0, .int .i64 a1] 28 (0, 0)) (by (with_reducible repeat (first | refine blk_drewN ?_ _ | refine blk_drew ?_ | refine blk_alloc ?_ _)); exact BK315.out)) : gb335 ≠ gb315))
       have n11_ := Aside0.mk ((by rw [hg]; exact Nat.ne_of_lt (blk_lt (g := gb316) (o := .cells #[.slice A0 l0.length c0, .int .i64 a1] 29 (0, 0)) (by (with_reducible repeat (first | refine blk_drewN ?_ _ | refine blk_drew ?_ | refine blk_alloc ?_ _)); exact BK316.out)) : gb316 ≠ gb335))
       have n12_ := Aside0.mk ((by rw [hg]; exact Nat.ne_of_gt (blk_lt (g := gb316) (o := .cells #[.slice A0 l0.length c0, .int .i64 a1] 29 (0, 0)) (by (with_reducible repeat (first | refine blk_drewN ?_ _ | refine blk_drew ?_ | refine blk_alloc ?_ _)); exact BK316.out)) : gb335 ≠ gb316))
       have n13_ := Aside0.mk ((by rw [hg]; exact Nat.ne_of_lt (blk_lt (g := gb323) (o := .cells #[.slice Ao23 t318.length co23, .int .i64 t321] 28 (0, 0)) (by (with_reducible repeat (first | refine blk_drewN ?_ _ | refine blk_drew ?_ | refine blk_alloc ?_ _)); exact BK323.out)) : gb323 ≠ gb335))
       have n14_ := Aside0.mk ((by rw [hg]; exact Nat.ne_of_gt (blk_lt (g := gb323) (o := .cells #[.slice Ao23 t318.length co23, .int .i64 t321] 28 (0, 0)) (by (with_reducible repeat (first | refine blk_drewN ?_ _ | refine blk_drew ?_ | refine blk_alloc ?_ _)); exact BK323.out)) : gb335 ≠ gb323))
       clear HO320
       clear HO326
       clear BK315
       clear BK316
       clear BK323
       clear HB
       have HO320 := n0_
       have HO326 := n1_
       have BK315 := n2_
       have BK316 := n3_
       have BK323 := n4_
       have HB := n5_
       have BK335 := n6_
       have GW335 := n7_
       have GE335 := n8_
       have NB315_335 := n9_
       have NB335_315 := n10_
       have NB316_335 := n11_
       have NB335_316 := n12_
       have NB323_335 := n13_
       have NB335_323 := n14_
       clear n0_ n1_ n2_ n3_ n4_ n5_ n6_ n7_ n8_ n9_ n10_ n11_ n12_ n13_ n14_
       clear hb hbox hg
       obtain ⟨Ao31, co31, eo31⟩ := Kd.R_slice HO326.out
       (first | subst eo31 | (injection eo31 with f1_ f2_ f3_; have f4_ := f1_.symm; have f5_ := f3_.symm; clear f1_ f2_ f3_; subst f4_; subst f5_))
       refine hK.out _ _ ⟨(blk_cell BK316.out 0).trans rfl, (blk_cell BK316.out 1).trans rfl⟩ (fun hHeld => ?_)
       clear hK K
       refine norm_ (a' := ?_) ?_ ?_
       rotate_left
       ·
        show Act.put _ (some 15) _ = _
        simp only [Act.put, List.setIfInBounds_toArray, List.set_cons_zero, List.set_cons_succ, i64_w, i32_w]
        rfl
       refine one_ (i := 3) (N := some 50) #[true, true, true, true, false, false, false, false, true, false, false, false] rfl rfl (one_of HT_.out (by kernel_rfl)) (by decide) (fun K hK => ?_)
       refine goes_ Try.func11 (by kernel_rfl) rfl #[.agg #[.slice A0 l0.length c0, .int .i64 a1], .slice Ao31 t324.length co31] (by rfl) rfl rfl (by (try simp only [List.map_toArray, List.map_cons, List.map_nil]); first | done | rfl | (simp only [List.length_drop, List.length_take]; rfl)) ?_
       with_reducible refine (samphireref07_Below.calls kj4 (fun k_ => k_ < w.heap.size) _ _ l0 a1 _ _ t324 t327 t330 t333 t334 _ ?side1 ?side2 ?side3 A12.out).mono ?_
       (case side1 => exact Kd.V_mk HC0.out (Kd.F_below (Kd.C_F (Kd.heap_int .u64) HR0.out) (by repeat (first | (with_reducible first | exact HB.out | apply below_alloc | apply pw_below_drewN | apply below_drew1 | refine below_set ?_ GE315.out | refine below_set ?_ GE316.out | refine below_set ?_ GE323.out | refine below_set ?_ GE335.out) | exact HB.out))))
       (case side2 => repeat (first | exact (Kd.R_reads' HO326.out).2.2 | (with_reducible refine Kd.C_alloc ?_ _) | (with_reducible refine Kd.C_drewN ?_ _) | (with_reducible refine Kd.C_drew ?_)))
       (case side3 => exact (Kd.R_reads' HO326.out).2.1)
       rintro e w32 ⟨v328, v331, rfl, ho0, ho1, hb⟩
       refine ⟨_, rfl, ?_⟩
       have n0_ := Aside0.mk (Kd.V_elder' (by (with_reducible repeat (first | apply Kd.V_alloc | apply Kd.V_drewN | apply Kd.V_drew)); exact HO320.out) (Kd.R_base ho0) hb)
       have n1_ := Aside0.mk (Kd.R_elder' (by (with_reducible repeat (first | apply Kd.R_alloc | apply Kd.R_drewN | apply Kd.R_drew)); exact HO326.out) (Kd.R_base ho0) hb)
       have n2_ := Aside0.mk (Kd.R_lower (Kd.R_new' (Kd.R_mono (ok' := fun k_ => True) ho0 (fun _ hk_ => trivial)) (Kd.R_lt (by (with_reducible repeat (first | apply Kd.R_alloc | apply Kd.R_drewN | apply Kd.R_drew)); exact HO326.out))) (below_size (by repeat (first | (with_reducible first | exact HB.out | apply below_alloc | apply pw_below_drewN | apply below_drew1 | refine below_set ?_ GE315.out | refine below_set ?_ GE316.out | refine below_set ?_ GE323.out | refine below_set ?_ GE335.out) | exact HB.out))))
       have n3_ := Aside0.mk (Kd.V_lower (Kd.V_mono (ok' := fun k_ => some k_ ≠ (v328 : Value).ownBlock ∧ some k_ ≠ (.slice Ao31 t324.length co31 : Value).ownBlock ∧ k_ ≠ gb315 ∧ k_ ≠ gb316 ∧ k_ ≠ gb323 ∧ k_ ≠ gb335) ho1 (fun k_ hk_ => ⟨hk_.2, Or.elim hk_.1 (fun hs_ => fun e_ => Nat.not_le.2 hs_ (Kd.R_base HO326.out k_ e_.symm)) (fun hn_ => (Kd.fresh' (Kd.R_lt (by (with_reducible repeat (first | apply Kd.R_alloc | apply Kd.R_drewN | apply Kd.R_drew)); exact HO326.out)) k_ hn_)), Or.elim hk_.1 (fun hs_ => fun e_ => Nat.not_le.2 hs_ (by rw [e_]; exact GW315.out)) (fun hn_ => (Kd.freshB (g := gb315) (o := .cells #[.slice A0 l0.length c0, .int .i64 a1] 28 (0, 0)) (by (with_reducible repeat (first | refine blk_drewN ?_ _ | refine blk_drew ?_ | refine blk_alloc ?_ _)); exact BK315.out) k_ hn_)), Or.elim hk_.1 (fun hs_ => fun e_ => Nat.not_le.2 hs_ (by rw [e_]; exact GW316.out)) (fun hn_ => (Kd.freshB (g := gb316) (o := .cells #[.slice A0 l0.length c0, .int .i64 a1] 29 (0, 0)) (by (with_reducible repeat (first | refine blk_drewN ?_ _ | refine blk_drew ?_ | refine blk_alloc ?_ _)); exact BK316.out) k_ hn_)), Or.elim hk_.1 (fun hs_ => fun e_ => Nat.not_le.2 hs_ (by rw [e_]; exact GW323.out)) (fun hn_ => (Kd.freshB (g := gb323) (o := .cells #[.slice Ao23 t318.length co23, .int .i64 t321] 28 (0, 0)) (by (with_reducible repeat (first | refine blk_drewN ?_ _ | refine blk_drew ?_ | refine blk_alloc ?_ _)); exact BK323.out) k_ hn_)), Or.elim hk_.1 (fun hs_ => fun e_ => Nat.not_le.2 hs_ (by rw [e_]; exact GW335.out)) (fun hn_ => (Kd.freshB (g := gb335) (o := .cells #[.slice none 0 0, .int .i64 0] 29 (0, 0)) (by (with_reducible repeat (first | refine blk_drewN ?_ _ | refine blk_drew ?_ | refine blk_alloc ?_ _)); exact BK335.out) k_ hn_))⟩)) (below_size (by repeat (first | (with_reducible first | exact HB.out | apply below_alloc | apply pw_below_drewN | apply below_drew1 | refine below_set ?_ GE315.out | refine below_set ?_ GE316.out | refine below_set ?_ GE323.out | refine below_set ?_ GE335.out) | exact HB.out))))
       have n4_ := Aside0.mk (blk_below (g := gb315) (o := .cells #[.slice A0 l0.length c0, .int .i64 a1] 28 (0, 0)) (by (with_reducible repeat (first | refine blk_drewN ?_ _ | refine blk_drew ?_ | refine blk_alloc ?_ _)); exact BK315.out) hb)
       have n5_ := Aside0.mk (blk_below (g := gb316) (o := .cells #[.slice A0 l0.length c0, .int .i64 a1] 29 (0, 0)) (by (with_reducible repeat (first | refine blk_drewN ?_ _ | refine blk_drew ?_ | refine blk_alloc ?_ _)); exact BK316.out) hb)
       have n6_ := Aside0.mk (blk_below (g := gb323) (o := .cells #[.slice Ao23 t318.length co23, .int .i64 t321] 28 (0, 0)) (by (with_reducible repeat (first | refine blk_drewN ?_ _ | refine blk_drew ?_ | refine blk_alloc ?_ _)); exact BK323.out) hb)
       have n7_ := Aside0.mk (blk_below (g := gb335) (o := .cells #[.slice none 0 0, .int .i64 0] 29 (0, 0)) (by (with_reducible repeat (first | refine blk_drewN ?_ _ | refine blk_drew ?_ | refine blk_alloc ?_ _)); exact BK335.out) hb)
       have n8_ := Aside0.mk (below_step (by repeat (first | (with_reducible first | exact HB.out | apply below_alloc | apply pw_below_drewN | apply below_drew1 | refine below_set ?_ GE315.out | refine below_set ?_ GE316.out | refine below_set ?_ GE323.out | refine below_set ?_ GE335.out) | exact HB.out)) hb)
       clear HO320
       clear HO326
       clear BK315
       clear BK316
       clear BK323
       clear BK335
       clear HB
       have HO320 := n0_
       have HO326 := n1_
       have HO329 := n2_
       have HO332 := n3_
       have BK315 := n4_
       have BK316 := n5_
       have BK323 := n6_
       have BK335 := n7_
       have HB := n8_
       clear n0_ n1_ n2_ n3_ n4_ n5_ n6_ n7_ n8_
       (try clear hb)
       (try clear hb2)
       (try clear hk)
       (try clear hi)
       (try clear ho0)
       (try clear ho1)
       refine hK.out _ _ ⟨(blk_cell BK316.out 0).trans rfl, (blk_cell BK316.out 1).trans rfl⟩ (fun hHeld => ?_)
       clear hK K
       refine norm_ (a' := ?_) ?_ ?_
       rotate_left
       ·
        show Act.put _ (some 50) _ = _
        simp only [Act.put, List.setIfInBounds_toArray, List.set_cons_zero, List.set_cons_succ, i64_w, i32_w]
        rfl
       refine pure_ (i := 4) (N := some 46) (v := ?_) (a' := ?_) #[true, true, true, true, true, false, false, false, true, false, false, false] rfl rfl (any_of HT_.out (by kernel_rfl)) (fun _ _ _ h => h) (Or.inl ⟨by rfl, ?_⟩) ?_ ?_
       rotate_left
       ·
        intro w'
        go_simp
        with_reducible rfl
       rotate_left
       ·
        simp only [Act.put, List.setIfInBounds_toArray, List.set_cons_zero, List.set_cons_succ, i64_w, i32_w]
        rfl
       refine pure_ (i := 5) (N := some 51) (v := ?_) (a' := ?_) #[true, true, true, true, true, true, false, false, true, false, false, false] rfl rfl (any_of HT_.out (by kernel_rfl)) (fun _ _ _ h => h) (Or.inl ⟨by rfl, ?_⟩) ?_ ?_
       rotate_left
       ·
        intro w'
        go_simp
        with_reducible rfl
       rotate_left
       ·
        simp only [Act.put, List.setIfInBounds_toArray, List.set_cons_zero, List.set_cons_succ, i64_w, i32_w]
        rfl
       refine pure_ (i := 6) (N := some 52) (v := ?_) (a' := ?_) #[true, true, true, true, true, true, true, false, true, false, false, false] rfl rfl (any_of HT_.out (by kernel_rfl)) (fun _ _ _ h => h) (Or.inl ⟨by rfl, ?_⟩) ?_ ?_
       rotate_left
       ·
        intro w'
        go_simp
        with_reducible rfl
       rotate_left
       ·
        simp only [Act.put, List.setIfInBounds_toArray, List.set_cons_zero, List.set_cons_succ, i64_w, i32_w]
        rfl
       refine pure_ (i := 7) (N := some 53) (v := ?_) (a' := ?_) #[true, true, true, true, true, true, true, true, true, false, false, false] rfl rfl (any_of HT_.out (by kernel_rfl)) (fun _ _ _ h => h) (Or.inl ⟨by rfl, ?_⟩) ?_ ?_
       rotate_left
       ·
        intro w'
        go_simp
        with_reducible rfl
       rotate_left
       ·
        simp only [Act.put, List.setIfInBounds_toArray, List.set_cons_zero, List.set_cons_succ, i64_w, i32_w]
        rfl
       exact norm_ (by simp only [putAll, Act.put, List.setIfInBounds_toArray, List.set_cons_zero, List.set_cons_succ]) (hCont (.slice Ao31 t324.length co31, v328, v331, gb335) _ ⟨hHeld, (by (with_reducible repeat (first | apply Kd.V_alloc | apply Kd.V_drewN | apply Kd.V_drew)); exact Kd.V_mono HO320.out (fun _ hk => ⟨hk.1.1.2, ⟨hk.2, ⟨hk.1.1.1.1, ⟨hk.1.1.1.2.1, ⟨hk.1.1.1.2.2, hk.1.2⟩⟩⟩⟩⟩)), (by (with_reducible repeat (first | apply Kd.R_alloc | apply Kd.R_drewN | apply Kd.R_drew)); exact Kd.R_mono HO326.out (fun _ hk => hk.2)), (by (with_reducible repeat (first | apply Kd.R_alloc | apply Kd.R_drewN | apply Kd.R_drew)); exact Kd.R_mono HO329.out (fun _ hk => hk.2)), (by (with_reducible repeat (first | apply Kd.V_alloc | apply Kd.V_drewN | apply Kd.V_drew)); exact Kd.V_mono HO332.out (fun _ hk => ⟨hk.2.1, ⟨hk.1, ⟨hk.2.2.1, ⟨hk.2.2.2.1, ⟨hk.2.2.2.2.1, hk.2.2.2.2.2⟩⟩⟩⟩⟩)), (by (with_reducible repeat (first | refine blk_drewN ?_ _ | refine blk_drew ?_ | refine blk_alloc ?_ _)); exact BK315.out), (by (with_reducible repeat (first | refine blk_drewN ?_ _ | refine blk_drew ?_ | refine blk_alloc ?_ _)); exact BK316.out), (by (with_reducible repeat (first | refine blk_drewN ?_ _ | refine blk_drew ?_ | refine blk_alloc ?_ _)); exact BK323.out), (by (with_reducible repeat (first | refine blk_drewN ?_ _ | refine blk_drew ?_ | refine blk_alloc ?_ _)); exact BK335.out), GW335.out, GE335.out, NB315_335.out, NB335_315.out, NB316_335.out, NB335_316.out, NB323_335.out, NB335_323.out, (by repeat (first | (with_reducible first | exact HB.out | apply below_alloc | apply pw_below_drewN | apply below_drew1 | refine below_set ?_ GE315.out | refine below_set ?_ GE316.out | refine below_set ?_ GE323.out | refine below_set ?_ GE335.out) | exact HB.out))⟩)
     ·
      skip
      refine box_step ?hg (N := 15) ?hd (cs := #[.slice none 0 0, .int .i64 0]) (t := 29) ?hr ?_; (case hd => rfl); (case hg => rfl); (case hr => first | (go_simp; done) | (go_simp; rfl))
      intro gb335 hg w29 hbox hb
      have n0_ := Aside0.mk (Kd.V_below (Kd.V_elderB (by (with_reducible repeat (first | apply Kd.V_alloc | apply Kd.V_drewN | apply Kd.V_drew)); exact HO320.out) gb335 (Nat.le_of_eq hg.symm)) hb)
      have n1_ := Aside0.mk (blk_below (g := gb315) (o := .cells #[.slice A0 l0.length c0, .int .i64 a1] 28 (0, 0)) (by (with_reducible repeat (first | refine blk_drewN ?_ _ | refine blk_drew ?_ | refine blk_alloc ?_ _)); exact BK315.out) hb)
      have n2_ := Aside0.mk (blk_below (g := gb316) (o := .cells #[.slice A0 l0.length c0, .int .i64 a1] 29 (0, 0)) (by (with_reducible repeat (first | refine blk_drewN ?_ _ | refine blk_drew ?_ | refine blk_alloc ?_ _)); exact BK316.out) hb)
      have n3_ := Aside0.mk (blk_below (g := gb323) (o := .cells #[.slice Ao23 t318.length co23, .int .i64 t321] 28 (0, 0)) (by (with_reducible repeat (first | refine blk_drewN ?_ _ | refine blk_drew ?_ | refine blk_alloc ?_ _)); exact BK323.out) hb)
      have n4_ := Aside0.mk (below_step (by repeat (first | (with_reducible first | exact HB.out | apply below_alloc | apply pw_below_drewN | apply below_drew1 | refine below_set ?_ GE315.out | refine below_set ?_ GE316.out | refine below_set ?_ GE323.out) | exact HB.out)) hb)
      have n5_ := Aside0.mk (hbox)
      have n6_ := Aside0.mk ((by rw [hg]; exact (below_size (by repeat (first | (with_reducible first | exact HB.out | apply below_alloc | apply pw_below_drewN | apply below_drew1 | refine below_set ?_ GE315.out | refine below_set ?_ GE316.out | refine below_set ?_ GE323.out) | exact HB.out))) : w.heap.size ≤ gb335))
      have n7_ := Aside0.mk ((by rw [hg]; exact (below_size (by repeat (first | (with_reducible first | exact HB.out | apply below_alloc | apply pw_below_drewN | apply below_drew1 | refine below_set ?_ GE315.out | refine below_set ?_ GE316.out | refine below_set ?_ GE323.out) | exact HB.out))) : w.heap.size ≤ gb335))
      have n8_ := Aside0.mk ((by rw [hg]; exact Nat.ne_of_lt (blk_lt (g := gb315) (o := .cells #[.slice A0 l0.length c0, .int .i64 a1] 28 (0, 0)) (by (with_reducible repeat (first | refine blk_drewN ?_ _ | refine blk_drew ?_ | refine blk_alloc ?_ _)); exact BK315.out)) : gb315 ≠ gb335))
      have n9_ := Aside0.mk ((by rw [hg]; exact Nat.ne_of_gt (blk_lt (g := gb315) (o := .cells #[.slice A0 l0.length c0, .int .i64 a1] 28 (0, 0)) (by (with_reducible repeat (first | refine blk_drewN ?_ _ | refine blk_drew ?_ | refine blk_alloc ?_ _)); exact BK315.out)) : gb335 ≠ gb315))
      have n10_ := Aside0.mk ((by rw [hg]; exact Nat.ne_of_lt (blk_lt (g := gb316) (o := .cells #[.slice A0 l0.length c0, .int .i64 a1] 29 (0, 0)) (by (with_reducible repeat (first | refine blk_drewN ?_ _ | refine blk_drew ?_ | refine blk_alloc ?_ _)); exact BK316.out)) : gb316 ≠ gb335))
      have n11_ := Aside0.mk ((by rw [hg]; exact Nat.ne_of_gt (blk_lt (g := gb316) (o := .cells #[.slice A0 l0.length c0, .int .i64 a1] 29 (0, 0)) (by (with_reducible repeat (first | refine blk_drewN ?_ _ | refine blk_drew ?_ | refine blk_alloc ?_ _)); exact BK316.out)) : gb335 ≠ gb316))
      have n12_ := Aside0.mk ((by rw [hg]; exact Nat.ne_of_lt (blk_lt (g := gb323) (o := .cells #[.slice Ao23 t318.length co23, .int .i64 t321] 28 (0, 0)) (by (with_reducible repeat (first | refine blk_drewN ?_ _ | refine blk_drew ?_ | refine blk_alloc ?_ _)); exact BK323.out)) : gb323 ≠ gb335))
      have n13_ := Aside0.mk ((by rw [hg]; exact Nat.ne_of_gt (blk_lt (g := gb323) (o := .cells #[.slice Ao23 t318.length co23, .int .i64 t321] 28 (0, 0)) (by (with_reducible repeat (first | refine blk_drewN ?_ _ | refine blk_drew ?_ | refine blk_alloc ?_ _)); exact BK323.out)) : gb335 ≠ gb323))
      clear HO320
      clear BK315
      clear BK316
      clear BK323
      clear HB
      have HO320 := n0_
      have BK315 := n1_
      have BK316 := n2_
      have BK323 := n3_
      have HB := n4_
      have BK335 := n5_
      have GW335 := n6_
      have GE335 := n7_
      have NB315_335 := n8_
      have NB335_315 := n9_
      have NB316_335 := n10_
      have NB335_316 := n11_
      have NB323_335 := n12_
      have NB335_323 := n13_
      clear n0_ n1_ n2_ n3_ n4_ n5_ n6_ n7_ n8_ n9_ n10_ n11_ n12_ n13_
      clear hb hbox hg
      refine hK.out _ _ ⟨(blk_cell BK316.out 0).trans rfl, (blk_cell BK316.out 1).trans rfl⟩ (fun hHeld => ?_)
      clear hK K
      refine norm_ (a' := ?_) ?_ ?_
      rotate_left
      ·
       show Act.put _ (some 15) _ = _
       simp only [Act.put, List.setIfInBounds_toArray, List.set_cons_zero, List.set_cons_succ, i64_w, i32_w]
       rfl
      refine one_ (i := 2) (N := some 49) #[true, true, true, false, false, false, false, false, true, false, false, false] rfl rfl (one_of HT_.out (by kernel_rfl)) (by decide) (fun K hK => ?_)
      refine goes_ Try.func12 (by kernel_rfl) rfl #[.int .u64 a2] (by rfl) rfl rfl (by (try simp only [List.map_toArray, List.map_cons, List.map_nil]); first | done | rfl | (simp only [List.length_drop, List.length_take]; rfl)) ?_
      with_reducible refine (samphireref02_Of.calls kj4 a2 t324 _ A11.out).mono ?_
      rintro e w30 ⟨v325, rfl, ho0, hb⟩
      refine ⟨_, rfl, ?_⟩
      have n0_ := Aside0.mk (Kd.V_elder' (by (with_reducible repeat (first | apply Kd.V_alloc | apply Kd.V_drewN | apply Kd.V_drew)); exact HO320.out) (Kd.R_base ho0) hb)
      have n1_ := Aside0.mk (Kd.R_lower ho0 (below_size (by repeat (first | (with_reducible first | exact HB.out | apply below_alloc | apply pw_below_drewN | apply below_drew1 | refine below_set ?_ GE315.out | refine below_set ?_ GE316.out | refine below_set ?_ GE323.out | refine below_set ?_ GE335.out) | exact HB.out))))
      have n2_ := Aside0.mk (blk_below (g := gb315) (o := .cells #[.slice A0 l0.length c0, .int .i64 a1] 28 (0, 0)) (by (with_reducible repeat (first | refine blk_drewN ?_ _ | refine blk_drew ?_ | refine blk_alloc ?_ _)); exact BK315.out) hb)
      have n3_ := Aside0.mk (blk_below (g := gb316) (o := .cells #[.slice A0 l0.length c0, .int .i64 a1] 29 (0, 0)) (by (with_reducible repeat (first | refine blk_drewN ?_ _ | refine blk_drew ?_ | refine blk_alloc ?_ _)); exact BK316.out) hb)
      have n4_ := Aside0.mk (blk_below (g := gb323) (o := .cells #[.slice Ao23 t318.length co23, .int .i64 t321] 28 (0, 0)) (by (with_reducible repeat (first | refine blk_drewN ?_ _ | refine blk_drew ?_ | refine blk_alloc ?_ _)); exact BK323.out) hb)
      have n5_ := Aside0.mk (blk_below (g := gb335) (o := .cells #[.slice none 0 0, .int .i64 0] 29 (0, 0)) (by (with_reducible repeat (first | refine blk_drewN ?_ _ | refine blk_drew ?_ | refine blk_alloc ?_ _)); exact BK335.out) hb)
      have n6_ := Aside0.mk (below_step (by repeat (first | (with_reducible first | exact HB.out | apply below_alloc | apply pw_below_drewN | apply below_drew1 | refine below_set ?_ GE315.out | refine below_set ?_ GE316.out | refine below_set ?_ GE323.out | refine below_set ?_ GE335.out) | exact HB.out)) hb)
      clear HO320
      clear BK315
      clear BK316
      clear BK323
      clear BK335
      clear HB
      have HO320 := n0_
      have HO326 := n1_
      have BK315 := n2_
      have BK316 := n3_
      have BK323 := n4_
      have BK335 := n5_
      have HB := n6_
      clear n0_ n1_ n2_ n3_ n4_ n5_ n6_
      (try clear hb)
      (try clear hb2)
      (try clear hk)
      (try clear hi)
      (try clear ho0)
      obtain ⟨Ao31, co31, eo31⟩ := Kd.R_slice HO326.out
      (first | subst eo31 | (injection eo31 with f1_ f2_ f3_; have f4_ := f1_.symm; have f5_ := f3_.symm; clear f1_ f2_ f3_; subst f4_; subst f5_))
      refine hK.out _ _ ⟨(blk_cell BK316.out 0).trans rfl, (blk_cell BK316.out 1).trans rfl⟩ (fun hHeld => ?_)
      clear hK K
      refine norm_ (a' := ?_) ?_ ?_
      rotate_left
      ·
       show Act.put _ (some 49) _ = _
       simp only [Act.put, List.setIfInBounds_toArray, List.set_cons_zero, List.set_cons_succ, i64_w, i32_w]
       rfl
      refine one_ (i := 3) (N := some 50) #[true, true, true, true, false, false, false, false, true, false, false, false] rfl rfl (one_of HT_.out (by kernel_rfl)) (by decide) (fun K hK => ?_)
      refine goes_ Try.func11 (by kernel_rfl) rfl #[.agg #[.slice A0 l0.length c0, .int .i64 a1], .slice Ao31 t324.length co31] (by rfl) rfl rfl (by (try simp only [List.map_toArray, List.map_cons, List.map_nil]); first | done | rfl | (simp only [List.length_drop, List.length_take]; rfl)) ?_
      with_reducible refine (samphireref07_Below.calls kj4 (fun k_ => k_ < w.heap.size) _ _ l0 a1 _ _ t324 t327 t330 t333 t334 _ ?side1 ?side2 ?side3 A12.out).mono ?_
      (case side1 => exact Kd.V_mk HC0.out (Kd.F_below (Kd.C_F (Kd.heap_int .u64) HR0.out) (by repeat (first | (with_reducible first | exact HB.out | apply below_alloc | apply pw_below_drewN | apply below_drew1 | refine below_set ?_ GE315.out | refine below_set ?_ GE316.out | refine below_set ?_ GE323.out | refine below_set ?_ GE335.out) | exact HB.out))))
      (case side2 => repeat (first | exact (Kd.R_reads' HO326.out).2.2 | (with_reducible refine Kd.C_alloc ?_ _) | (with_reducible refine Kd.C_drewN ?_ _) | (with_reducible refine Kd.C_drew ?_)))
      (case side3 => exact (Kd.R_reads' HO326.out).2.1)
      rintro e w32 ⟨v328, v331, rfl, ho0, ho1, hb⟩
      refine ⟨_, rfl, ?_⟩
      have n0_ := Aside0.mk (Kd.V_elder' (by (with_reducible repeat (first | apply Kd.V_alloc | apply Kd.V_drewN | apply Kd.V_drew)); exact HO320.out) (Kd.R_base ho0) hb)
      have n1_ := Aside0.mk (Kd.R_elder' (by (with_reducible repeat (first | apply Kd.R_alloc | apply Kd.R_drewN | apply Kd.R_drew)); exact HO326.out) (Kd.R_base ho0) hb)
      have n2_ := Aside0.mk (Kd.R_lower (Kd.R_new' (Kd.R_mono (ok' := fun k_ => True) ho0 (fun _ hk_ => trivial)) (Kd.R_lt (by (with_reducible repeat (first | apply Kd.R_alloc | apply Kd.R_drewN | apply Kd.R_drew)); exact HO326.out))) (below_size (by repeat (first | (with_reducible first | exact HB.out | apply below_alloc | apply pw_below_drewN | apply below_drew1 | refine below_set ?_ GE315.out | refine below_set ?_ GE316.out | refine below_set ?_ GE323.out | refine below_set ?_ GE335.out) | exact HB.out))))
      have n3_ := Aside0.mk (Kd.V_lower (Kd.V_mono (ok' := fun k_ => some k_ ≠ (v328 : Value).ownBlock ∧ some k_ ≠ (.slice Ao31 t324.length co31 : Value).ownBlock ∧ k_ ≠ gb315 ∧ k_ ≠ gb316 ∧ k_ ≠ gb323 ∧ k_ ≠ gb335) ho1 (fun k_ hk_ => ⟨hk_.2, Or.elim hk_.1 (fun hs_ => fun e_ => Nat.not_le.2 hs_ (Kd.R_base HO326.out k_ e_.symm)) (fun hn_ => (Kd.fresh' (Kd.R_lt (by (with_reducible repeat (first | apply Kd.R_alloc | apply Kd.R_drewN | apply Kd.R_drew)); exact HO326.out)) k_ hn_)), Or.elim hk_.1 (fun hs_ => fun e_ => Nat.not_le.2 hs_ (by rw [e_]; exact GW315.out)) (fun hn_ => (Kd.freshB (g := gb315) (o := .cells #[.slice A0 l0.length c0, .int .i64 a1] 28 (0, 0)) (by (with_reducible repeat (first | refine blk_drewN ?_ _ | refine blk_drew ?_ | refine blk_alloc ?_ _)); exact BK315.out) k_ hn_)), Or.elim hk_.1 (fun hs_ => fun e_ => Nat.not_le.2 hs_ (by rw [e_]; exact GW316.out)) (fun hn_ => (Kd.freshB (g := gb316) (o := .cells #[.slice A0 l0.length c0, .int .i64 a1] 29 (0, 0)) (by (with_reducible repeat (first | refine blk_drewN ?_ _ | refine blk_drew ?_ | refine blk_alloc ?_ _)); exact BK316.out) k_ hn_)), Or.elim hk_.1 (fun hs_ => fun e_ => Nat.not_le.2 hs_ (by rw [e_]; exact GW323.out)) (fun hn_ => (Kd.freshB (g := gb323) (o := .cells #[.slice Ao23 t318.length co23, .int .i64 t321] 28 (0, 0)) (by (with_reducible repeat (first | refine blk_drewN ?_ _ | refine blk_drew ?_ | refine blk_alloc ?_ _)); exact BK323.out) k_ hn_)), Or.elim hk_.1 (fun hs_ => fun e_ => Nat.not_le.2 hs_ (by rw [e_]; exact GW335.out)) (fun hn_ => (Kd.freshB (g := gb335) (o := .cells #[.slice none 0 0, .int .i64 0] 29 (0, 0)) (by (with_reducible repeat (first | refine blk_drewN ?_ _ | refine blk_drew ?_ | refine blk_alloc ?_ _)); exact BK335.out) k_ hn_))⟩)) (below_size (by repeat (first | (with_reducible first | exact HB.out | apply below_alloc | apply pw_below_drewN | apply below_drew1 | refine below_set ?_ GE315.out | refine below_set ?_ GE316.out | refine below_set ?_ GE323.out | refine below_set ?_ GE335.out) | exact HB.out))))
      have n4_ := Aside0.mk (blk_below (g := gb315) (o := .cells #[.slice A0 l0.length c0, .int .i64 a1] 28 (0, 0)) (by (with_reducible repeat (first | refine blk_drewN ?_ _ | refine blk_drew ?_ | refine blk_alloc ?_ _)); exact BK315.out) hb)
      have n5_ := Aside0.mk (blk_below (g := gb316) (o := .cells #[.slice A0 l0.length c0, .int .i64 a1] 29 (0, 0)) (by (with_reducible repeat (first | refine blk_drewN ?_ _ | refine blk_drew ?_ | refine blk_alloc ?_ _)); exact BK316.out) hb)
      have n6_ := Aside0.mk (blk_below (g := gb323) (o := .cells #[.slice Ao23 t318.length co23, .int .i64 t321] 28 (0, 0)) (by (with_reducible repeat (first | refine blk_drewN ?_ _ | refine blk_drew ?_ | refine blk_alloc ?_ _)); exact BK323.out) hb)
      have n7_ := Aside0.mk (blk_below (g := gb335) (o := .cells #[.slice none 0 0, .int .i64 0] 29 (0, 0)) (by (with_reducible repeat (first | refine blk_drewN ?_ _ | refine blk_drew ?_ | refine blk_alloc ?_ _)); exact BK335.out) hb)
      have n8_ := Aside0.mk (below_step (by repeat (first | (with_reducible first | exact HB.out | apply below_alloc | apply pw_below_drewN | apply below_drew1 | refine below_set ?_ GE315.out | refine below_set ?_ GE316.out | refine below_set ?_ GE323.out | refine below_set ?_ GE335.out) | exact HB.out)) hb)
      clear HO320
      clear HO326
      clear BK315
      clear BK316
      clear BK323
      clear BK335
      clear HB
      have HO320 := n0_
      have HO326 := n1_
      have HO329 := n2_
      have HO332 := n3_
      have BK315 := n4_
      have BK316 := n5_
      have BK323 := n6_
      have BK335 := n7_
      have HB := n8_
      clear n0_ n1_ n2_ n3_ n4_ n5_ n6_ n7_ n8_
      (try clear hb)
      (try clear hb2)
      (try clear hk)
      (try clear hi)
      (try clear ho0)
      (try clear ho1)
      refine hK.out _ _ ⟨(blk_cell BK316.out 0).trans rfl, (blk_cell BK316.out 1).trans rfl⟩ (fun hHeld => ?_)
      clear hK K
      refine norm_ (a' := ?_) ?_ ?_
      rotate_left
      ·
       show Act.put _ (some 50) _ = _
       simp only [Act.put, List.setIfInBounds_toArray, List.set_cons_zero, List.set_cons_succ, i64_w, i32_w]
       rfl
      refine pure_ (i := 4) (N := some 46) (v := ?_) (a' := ?_) #[true, true, true, true, true, false, false, false, true, false, false, false] rfl rfl (any_of HT_.out (by kernel_rfl)) (fun _ _ _ h => h) (Or.inl ⟨by rfl, ?_⟩) ?_ ?_
      rotate_left
      ·
       intro w'
       go_simp
       with_reducible rfl
      rotate_left
      ·
       simp only [Act.put, List.setIfInBounds_toArray, List.set_cons_zero, List.set_cons_succ, i64_w, i32_w]
       rfl
      refine pure_ (i := 5) (N := some 51) (v := ?_) (a' := ?_) #[true, true, true, true, true, true, false, false, true, false, false, false] rfl rfl (any_of HT_.out (by kernel_rfl)) (fun _ _ _ h => h) (Or.inl ⟨by rfl, ?_⟩) ?_ ?_
      rotate_left
      ·
       intro w'
       go_simp
       with_reducible rfl
      rotate_left
      ·
       simp only [Act.put, List.setIfInBounds_toArray, List.set_cons_zero, List.set_cons_succ, i64_w, i32_w]
       rfl
      refine pure_ (i := 6) (N := some 52) (v := ?_) (a' := ?_) #[true, true, true, true, true, true, true, false, true, false, false, false] rfl rfl (any_of HT_.out (by kernel_rfl)) (fun _ _ _ h => h) (Or.inl ⟨by rfl, ?_⟩) ?_ ?_
      rotate_left
      ·
       intro w'
       go_simp
       with_reducible rfl
      rotate_left
      ·
       simp only [Act.put, List.setIfInBounds_toArray, List.set_cons_zero, List.set_cons_succ, i64_w, i32_w]
       rfl
      refine pure_ (i := 7) (N := some 53) (v := ?_) (a' := ?_) #[true, true, true, true, true, true, true, true, true, false, false, false] rfl rfl (any_of HT_.out (by kernel_rfl)) (fun _ _ _ h => h) (Or.inl ⟨by rfl, ?_⟩) ?_ ?_
      rotate_left
      ·
       intro w'
       go_simp
       with_reducible rfl
      rotate_left
      ·
       simp only [Act.put, List.setIfInBounds_toArray, List.set_cons_zero, List.set_cons_succ, i64_w, i32_w]
       rfl
      exact norm_ (by simp only [putAll, Act.put, List.setIfInBounds_toArray, List.set_cons_zero, List.set_cons_succ]) (hCont (.slice Ao31 t324.length co31, v328, v331, gb335) _ ⟨hHeld, (by (with_reducible repeat (first | apply Kd.V_alloc | apply Kd.V_drewN | apply Kd.V_drew)); exact Kd.V_mono HO320.out (fun _ hk => ⟨hk.1.2, ⟨hk.2, ⟨hk.1.1.1.1, ⟨hk.1.1.1.2.1, ⟨hk.1.1.1.2.2, hk.1.1.2⟩⟩⟩⟩⟩)), (by (with_reducible repeat (first | apply Kd.R_alloc | apply Kd.R_drewN | apply Kd.R_drew)); exact Kd.R_mono HO326.out (fun _ hk => hk.2)), (by (with_reducible repeat (first | apply Kd.R_alloc | apply Kd.R_drewN | apply Kd.R_drew)); exact Kd.R_mono HO329.out (fun _ hk => hk.2)), (by (with_reducible repeat (first | apply Kd.V_alloc | apply Kd.V_drewN | apply Kd.V_drew)); exact Kd.V_mono HO332.out (fun _ hk => ⟨hk.2.1, ⟨hk.1, ⟨hk.2.2.1, ⟨hk.2.2.2.1, ⟨hk.2.2.2.2.1, hk.2.2.2.2.2⟩⟩⟩⟩⟩)), (by (with_reducible repeat (first | refine blk_drewN ?_ _ | refine blk_drew ?_ | refine blk_alloc ?_ _)); exact BK315.out), (by (with_reducible repeat (first | refine blk_drewN ?_ _ | refine blk_drew ?_ | refine blk_alloc ?_ _)); exact BK316.out), (by (with_reducible repeat (first | refine blk_drewN ?_ _ | refine blk_drew ?_ | refine blk_alloc ?_ _)); exact BK323.out), (by (with_reducible repeat (first | refine blk_drewN ?_ _ | refine blk_drew ?_ | refine blk_alloc ?_ _)); exact BK335.out), GW335.out, GE335.out, NB315_335.out, NB335_315.out, NB316_335.out, NB335_316.out, NB323_335.out, NB335_323.out, (by repeat (first | (with_reducible first | exact HB.out | apply below_alloc | apply pw_below_drewN | apply below_drew1 | refine below_set ?_ GE315.out | refine below_set ?_ GE316.out | refine below_set ?_ GE323.out | refine below_set ?_ GE335.out) | exact HB.out))⟩)
    rintro ⟨v325, v328, v331, gb335⟩ w33 ⟨hS_, h0_, h1_, h2_, h3_, h4_, h5_, h6_, h7_, h8_, h9_, h10_, h11_, h12_, h13_, h14_, h15_, h16_⟩
    have n0_ : Aside0 (Kd.V (Kd.int .u64) 23 w33 w.heap.size (fun k_ => some k_ ≠ (v325 : Value).ownBlock ∧ some k_ ≠ (v328 : Value).ownBlock ∧ k_ ≠ gb315 ∧ k_ ≠ gb316 ∧ k_ ≠ gb323 ∧ k_ ≠ gb335) (.slice Ao23 t318.length co23) t318) := ⟨h0_⟩
    have n1_ : Aside0 (Kd.R (Kd.int .u32) 48 w33 w.heap.size (fun k_ => some k_ ≠ (v328 : Value).ownBlock) v325 t324) := ⟨h1_⟩
    have n2_ : Aside0 (Kd.R (Kd.int .u32) 48 w33 w.heap.size (fun k_ => some k_ ≠ (v325 : Value).ownBlock) v328 t327) := ⟨h2_⟩
    have n3_ : Aside0 (Kd.V (Kd.int .u64) 23 w33 w.heap.size (fun k_ => some k_ ≠ (v325 : Value).ownBlock ∧ some k_ ≠ (v328 : Value).ownBlock ∧ k_ ≠ gb315 ∧ k_ ≠ gb316 ∧ k_ ≠ gb323 ∧ k_ ≠ gb335) v331 t330) := ⟨h3_⟩
    have n4_ : Aside0 (w33.heap[gb315]? = some (.cells #[.slice A0 l0.length c0, .int .i64 a1] 28 (0, 0))) := ⟨h4_⟩
    have n5_ : Aside0 (w33.heap[gb316]? = some (.cells #[.slice A0 l0.length c0, .int .i64 a1] 29 (0, 0))) := ⟨h5_⟩
    have n6_ : Aside0 (w33.heap[gb323]? = some (.cells #[.slice Ao23 t318.length co23, .int .i64 t321] 28 (0, 0))) := ⟨h6_⟩
    have n7_ : Aside0 (w33.heap[gb335]? = some (.cells #[.slice none 0 0, .int .i64 0] 29 (0, 0))) := ⟨h7_⟩
    have n8_ : Aside0 (w.heap.size ≤ gb335) := ⟨h8_⟩
    have n9_ : Aside0 (w.heap.size ≤ gb335) := ⟨h9_⟩
    have n10_ : Aside0 (gb315 ≠ gb335) := ⟨h10_⟩
    have n11_ : Aside0 (gb335 ≠ gb315) := ⟨h11_⟩
    have n12_ : Aside0 (gb316 ≠ gb335) := ⟨h12_⟩
    have n13_ : Aside0 (gb335 ≠ gb316) := ⟨h13_⟩
    have n14_ : Aside0 (gb323 ≠ gb335) := ⟨h14_⟩
    have n15_ : Aside0 (gb335 ≠ gb323) := ⟨h15_⟩
    have n16_ : Aside0 (Below w.heap.size w w33) := ⟨h16_⟩
    clear HO320
    clear BK315
    clear BK316
    clear BK323
    clear HB
    clear h0_ h1_ h2_ h3_ h4_ h5_ h6_ h7_ h8_ h9_ h10_ h11_ h12_ h13_ h14_ h15_ h16_
    have HO320 := n0_
    have HO326 := n1_
    have HO329 := n2_
    have HO332 := n3_
    have BK315 := n4_
    have BK316 := n5_
    have BK323 := n6_
    have BK335 := n7_
    have GW335 := n8_
    have GE335 := n9_
    have NB315_335 := n10_
    have NB335_315 := n11_
    have NB316_335 := n12_
    have NB335_316 := n13_
    have NB323_335 := n14_
    have NB335_323 := n15_
    have HB := n16_
    clear n0_ n1_ n2_ n3_ n4_ n5_ n6_ n7_ n8_ n9_ n10_ n11_ n12_ n13_ n14_ n15_ n16_
    have hHeld : w33.cell? ⟨gb316, 0, none⟩ = some (.slice A0 l0.length c0) ∧ w33.cell? ⟨gb316, 1, none⟩ = some (.int .i64 a1) := hS_
    obtain ⟨Ao34, co34, eo34⟩ := Kd.V_slice HO332.out
    (first | subst eo34 | (injection eo34 with f1_ f2_ f3_; have f4_ := f1_.symm; have f5_ := f3_.symm; clear f1_ f2_ f3_; subst f4_; subst f5_))
    refine norm_ (a' := ?_) ?_ ?_
    rotate_left
    ·
     simp only [putAll, Act.put, List.setIfInBounds_toArray, List.set_cons_zero, List.set_cons_succ]
     rfl
    refine pure_ (i := 9) (N := some 14) (v := ?_) (a' := ?_) #[true, true, true, true, true, true, true, true, true, true, false, false] rfl rfl (any_of HT_.out (by kernel_rfl)) (fun _ _ _ h => h) (Or.inl ⟨by rfl, ?_⟩) ?_ ?_
    rotate_left
    ·
     intro w'
     go_simp
     with_reducible rfl
    rotate_left
    ·
     simp only [Act.put, List.setIfInBounds_toArray, List.set_cons_zero, List.set_cons_succ, i64_w, i32_w]
     rfl
    refine one_ (i := 10) (N := none) #[true, true, true, true, true, true, true, true, true, true, true, false] rfl rfl (one_of HT_.out (by kernel_rfl)) (by decide) (fun K hK => ?_)
    have hs35 : w33.cell? ⟨gb335, 0, none⟩ = some (.slice none 0 0) := (blk_cell BK335.out 0).trans rfl
    have hfs35 := blk_frozen BK335.out 0
    have hns35_0 := NB315_335.out
    have hns35_1 := NB316_335.out
    have hns35_2 := NB323_335.out
    have hms35_0 := NB335_315.out
    have hms35_1 := NB335_316.out
    have hms35_2 := NB335_323.out
    have hs36 : w33.cell? ⟨gb335, 1, none⟩ = some (.int .i64 0) := (blk_cell BK335.out 1).trans rfl
    have hfs36 := blk_frozen BK335.out 1
    have hns36_0 := NB315_335.out
    have hns36_1 := NB316_335.out
    have hns36_2 := NB323_335.out
    have hms36_0 := NB335_315.out
    have hms36_1 := NB335_316.out
    have hms36_2 := NB335_323.out
    refine skip_ (w1 := ?_) (by rfl) rfl ?_ ?_
    rotate_left
    ·
     go_simp
     rfl
    refine hK.out _ _ ⟨((cell_far (p := ⟨gb335, _, none⟩) NB316_335.out _).trans (((cell_far (p := ⟨gb335, _, none⟩) NB316_335.out _).trans (hHeld.1)))), ((cell_far (p := ⟨gb335, _, none⟩) NB316_335.out _).trans (((cell_far (p := ⟨gb335, _, none⟩) NB316_335.out _).trans (hHeld.2))))⟩ (fun hHeld => ?_)
    clear hK K
    refine pure_ (i := 11) (N := some 16) (v := ?_) (a' := ?_) #[true, true, true, true, true, true, true, true, true, true, true, true] rfl rfl (any_of HT_.out (by kernel_rfl)) (fun _ _ _ h => h) (Or.inl ⟨by rfl, ?_⟩) ?_ ?_
    rotate_left
    ·
     intro w'
     go_simp
     with_reducible rfl
    rotate_left
    ·
     simp only [Act.put, List.setIfInBounds_toArray, List.set_cons_zero, List.set_cons_succ, i64_w, i32_w]
     rfl
    refine done_ (done_of HT_.out (by kernel_rfl)) ?_
    go_upto_region 7 with (fail)
    go_cut [69] (fun v69 wc => ∃ (kq : Nat) (x69_12 : Bool), v69 = .bool x69_12 ∧ Aside0 (samphirelaw07_DrawTells.j1 kq l0 a1 l3 x69_12 l0 a1 l0 a1 = some r) ∧ Aside0 (kq ≤ kj4) ∧ Aside0 (Kd.V (Kd.int .u64) 23 wc w.heap.size (fun k_ => k_ ≠ gb315 ∧ k_ ≠ gb316 ∧ k_ ≠ gb323 ∧ k_ ≠ gb335) (.slice Ao23 t318.length co23) t318) ∧ Aside0 (Kd.V (Kd.int .u64) 23 wc w.heap.size (fun k_ => k_ ≠ gb315 ∧ k_ ≠ gb316 ∧ k_ ≠ gb323 ∧ k_ ≠ gb335) (.slice Ao34 t330.length co34) t330) ∧ Aside0 (wc.heap[gb315]? = some (.cells #[(.slice A0 l0.length c0), .int .i64 a1] 28 (0, 0))) ∧ Aside0 (wc.heap[gb316]? = some (.cells #[(.slice A0 l0.length c0), .int .i64 a1] 29 (0, 0))) ∧ Aside0 (wc.heap[gb323]? = some (.cells #[(.slice Ao23 t318.length co23), .int .i64 t321] 28 (0, 0))) ∧ Aside0 (wc.heap[gb335]? = some (.cells #[(.slice Ao34 t330.length co34), .int .i64 t333] 29 (0, 0))) ∧ Aside0 (Below w.heap.size w wc))
    case first =>
     have H := HC13.out
     clear HC13
     replace H := Option.bind_eq_some_iff.mp H
     obtain ⟨t336, A370, H⟩ := H
     replace H : (if t317 = t336 then (if t321 = t333 then (samphirelaw07_DrawTells.j1 kj4 l0 a1 l3 (t322 != t334) l0 a1 l0 a1) else (samphirelaw07_DrawTells.j1 kj4 l0 a1 l3 true l0 a1 l0 a1)) else (samphirelaw07_DrawTells.j1 kj4 l0 a1 l3 true l0 a1 l0 a1)) = some r := H
     have A37 := Aside0.mk A370
     clear A370
     by_cases c38 : t317 = t336
     ·
      rw [if_pos c38] at H
      have c38b0 : (t317 == t336) = true := beq_iff_eq.mpr c38
      have c38b1 : (t317 != t336) = false := bne_eq_false_iff_eq.mpr c38
      clear c38
      (first | rw [c38b0] | (simp only [i64_w, i32_w]; rw [c38b0]) | skip)
      by_cases c39 : t321 = t333
      ·
       rw [if_pos c39] at H
       have c39b0 : (t321 == t333) = true := beq_iff_eq.mpr c39
       have c39b1 : (t321 != t333) = false := bne_eq_false_iff_eq.mpr c39
       clear c39
       have H' := Aside0.mk H
       clear H
       obtain ⟨Ao40, co40, eo40⟩ := Kd.R_slice HO329.out
       subst eo40
       go_wp2_with (first | ((with_reducible refine gate_callee (f := 13) rfl ?_); refine goesL_ (some 56) rfl rfl Try.func13 (by kernel_rfl) rfl #[.slice Ao40 t327.length co40] rfl (by (try simp only [List.map_toArray, List.map_cons, List.map_nil]); first | done | rfl | (simp only [List.length_drop, List.length_take]; rfl)) ?_; (with_reducible refine (samphireref07_Number.calls kj4 _ _ t327 t336 _ ?side1 ?side2 A37.out).mono ?_); (case side1 => refine (Kd.R_reads' (e := 48) (base := w.heap.size) (ok := fun k_ => some k_ ≠ (v325 : Value).ownBlock) (n := t327.length) (c := co40) ?_).2.2; exact (by (with_reducible repeat (first | apply Kd.R_alloc | apply Kd.R_drewN | apply Kd.R_drew)); exact (Kd.R_mono (Kd.R_far (p := ⟨gb335, 1, none⟩) (Kd.R_far (p := ⟨gb335, 0, none⟩) (Kd.R_types HO329.out BK335.out (by decide)) (fun _ hk => hk.2) (.slice Ao34 t330.length co34)) (fun _ hk => hk.2) (.int .i64 t333)) (fun _ h_ => h_.1)))); (case side2 => exact (Kd.R_reads' HO329.out).2.1); rintro e w' ⟨rfl, ⟨nd, rfl⟩⟩; refine ⟨_, rfl, ?_⟩; have hnb41 := NB323_315.out; have hnc41 := NB315_323.out; have hnb42 := NB323_316.out; have hnc42 := NB316_323.out; have hnb43 := NB323_335.out; have hnc43 := NB335_323.out; have hcz44_0 : w33.cell? ⟨gb323, 0, none⟩ = some (.slice Ao23 t318.length co23) := (blk_cell BK323.out 0).trans rfl; have hcz44_1 : w33.cell? ⟨gb323, 1, none⟩ = some (.int .i64 t321) := (blk_cell BK323.out 1).trans rfl; have hfz44_0 := blk_frozen BK323.out 0; have hfz44_1 := blk_frozen BK323.out 1; have hnb45 := NB335_315.out; have hnc45 := NB315_335.out; have hnb46 := NB335_316.out; have hnc46 := NB316_335.out; have hcz47_0 : w33.cell? ⟨gb335, 0, none⟩ = some (.slice none 0 0) := (blk_cell BK335.out 0).trans rfl; have hcz47_1 : w33.cell? ⟨gb335, 1, none⟩ = some (.int .i64 0) := (blk_cell BK335.out 1).trans rfl; have hfz47_0 := blk_frozen BK335.out 0; have hfz47_1 := blk_frozen BK335.out 1))
       go_meet
       case rel => exact ⟨_, ((t322 != t334)), (by first | rfl | (simp; done) | (simp [*]; done)), H', ⟨by have := HJ4.out; first | omega | exact Nat.le_refl _⟩, ⟨by (with_reducible repeat (first | apply Kd.V_alloc | apply Kd.V_drewN | apply Kd.V_drew)); exact Kd.V_mono (Kd.V_far (p := ⟨gb335, 1, none⟩) (Kd.V_far (p := ⟨gb335, 0, none⟩) (Kd.V_mono HO320.out (fun k_ hk => (⟨hk, hk.2.2.2.2.2⟩ : _ ∧ k_ ≠ gb335))) (fun _ hk => hk.2) (.slice Ao34 t330.length co34)) (fun _ hk => hk.2) (.int .i64 t333)) (fun _ hk => ⟨hk.1.2.2.1, ⟨hk.1.2.2.2.1, ⟨hk.1.2.2.2.2.1, hk.1.2.2.2.2.2⟩⟩⟩)⟩, ⟨by (with_reducible repeat (first | apply Kd.V_alloc | apply Kd.V_drewN | apply Kd.V_drew)); exact Kd.V_mono (Kd.V_far (p := ⟨gb335, 1, none⟩) (Kd.V_far (p := ⟨gb335, 0, none⟩) (Kd.V_mono HO332.out (fun k_ hk => (⟨hk, hk.2.2.2.2.2⟩ : _ ∧ k_ ≠ gb335))) (fun _ hk => hk.2) (.slice Ao34 t330.length co34)) (fun _ hk => hk.2) (.int .i64 t333)) (fun _ hk => ⟨hk.1.2.2.1, ⟨hk.1.2.2.2.1, ⟨hk.1.2.2.2.2.1, hk.1.2.2.2.2.2⟩⟩⟩)⟩, ⟨by (with_reducible repeat (first | refine blk_drewN ?_ _ | refine blk_drew ?_ | refine blk_alloc ?_ _)); refine blk_far ?_ NB315_335.out _; (with_reducible repeat (first | refine blk_drewN ?_ _ | refine blk_drew ?_ | refine blk_alloc ?_ _)); refine blk_far ?_ NB315_335.out _; (with_reducible repeat (first | refine blk_drewN ?_ _ | refine blk_drew ?_ | refine blk_alloc ?_ _)); exact BK315.out⟩, ⟨by (with_reducible repeat (first | refine blk_drewN ?_ _ | refine blk_drew ?_ | refine blk_alloc ?_ _)); refine blk_far ?_ NB316_335.out _; (with_reducible repeat (first | refine blk_drewN ?_ _ | refine blk_drew ?_ | refine blk_alloc ?_ _)); refine blk_far ?_ NB316_335.out _; (with_reducible repeat (first | refine blk_drewN ?_ _ | refine blk_drew ?_ | refine blk_alloc ?_ _)); exact BK316.out⟩, ⟨by (with_reducible repeat (first | refine blk_drewN ?_ _ | refine blk_drew ?_ | refine blk_alloc ?_ _)); refine blk_far ?_ NB323_335.out _; (with_reducible repeat (first | refine blk_drewN ?_ _ | refine blk_drew ?_ | refine blk_alloc ?_ _)); refine blk_far ?_ NB323_335.out _; (with_reducible repeat (first | refine blk_drewN ?_ _ | refine blk_drew ?_ | refine blk_alloc ?_ _)); exact BK323.out⟩, ⟨by (with_reducible repeat (first | refine blk_drewN ?_ _ | refine blk_drew ?_ | refine blk_alloc ?_ _)); refine blk_put (cs := #[.slice Ao34 t330.length co34, .int .i64 0]) ?_ 1 _ rfl; (with_reducible repeat (first | refine blk_drewN ?_ _ | refine blk_drew ?_ | refine blk_alloc ?_ _)); refine blk_put (cs := #[.slice none 0 0, .int .i64 0]) ?_ 0 _ rfl; (with_reducible repeat (first | refine blk_drewN ?_ _ | refine blk_drew ?_ | refine blk_alloc ?_ _)); exact BK335.out⟩, ⟨by repeat (first | (with_reducible first | exact HB.out | apply below_alloc | apply pw_below_drewN | apply below_drew1 | refine below_set ?_ GE315.out | refine below_set ?_ GE316.out | refine below_set ?_ GE323.out | refine below_set ?_ GE335.out) | exact HB.out)⟩⟩
      ·
       rw [if_neg c39] at H
       have c39b0 : (t321 == t333) = false := beq_eq_false_iff_ne.mpr c39
       have c39b1 : (t321 != t333) = true := bne_iff_ne.mpr c39
       have H' := Aside0.mk H
       clear H
       obtain ⟨Ao48, co48, eo48⟩ := Kd.R_slice HO329.out
       subst eo48
       go_wp2_with (first | ((with_reducible refine gate_callee (f := 13) rfl ?_); refine goesL_ (some 56) rfl rfl Try.func13 (by kernel_rfl) rfl #[.slice Ao48 t327.length co48] rfl (by (try simp only [List.map_toArray, List.map_cons, List.map_nil]); first | done | rfl | (simp only [List.length_drop, List.length_take]; rfl)) ?_; (with_reducible refine (samphireref07_Number.calls kj4 _ _ t327 t336 _ ?side1 ?side2 A37.out).mono ?_); (case side1 => refine (Kd.R_reads' (e := 48) (base := w.heap.size) (ok := fun k_ => some k_ ≠ (v325 : Value).ownBlock) (n := t327.length) (c := co48) ?_).2.2; exact (by (with_reducible repeat (first | apply Kd.R_alloc | apply Kd.R_drewN | apply Kd.R_drew)); exact (Kd.R_mono (Kd.R_far (p := ⟨gb335, 1, none⟩) (Kd.R_far (p := ⟨gb335, 0, none⟩) (Kd.R_types HO329.out BK335.out (by decide)) (fun _ hk => hk.2) (.slice Ao34 t330.length co34)) (fun _ hk => hk.2) (.int .i64 t333)) (fun _ h_ => h_.1)))); (case side2 => exact (Kd.R_reads' HO329.out).2.1); rintro e w' ⟨rfl, ⟨nd, rfl⟩⟩; refine ⟨_, rfl, ?_⟩; have hnb49 := NB323_315.out; have hnc49 := NB315_323.out; have hnb50 := NB323_316.out; have hnc50 := NB316_323.out; have hnb51 := NB323_335.out; have hnc51 := NB335_323.out; have hcz52_0 : w33.cell? ⟨gb323, 0, none⟩ = some (.slice Ao23 t318.length co23) := (blk_cell BK323.out 0).trans rfl; have hcz52_1 : w33.cell? ⟨gb323, 1, none⟩ = some (.int .i64 t321) := (blk_cell BK323.out 1).trans rfl; have hfz52_0 := blk_frozen BK323.out 0; have hfz52_1 := blk_frozen BK323.out 1; have hnb53 := NB335_315.out; have hnc53 := NB315_335.out; have hnb54 := NB335_316.out; have hnc54 := NB316_335.out; have hcz55_0 : w33.cell? ⟨gb335, 0, none⟩ = some (.slice none 0 0) := (blk_cell BK335.out 0).trans rfl; have hcz55_1 : w33.cell? ⟨gb335, 1, none⟩ = some (.int .i64 0) := (blk_cell BK335.out 1).trans rfl; have hfz55_0 := blk_frozen BK335.out 0; have hfz55_1 := blk_frozen BK335.out 1))
       go_meet
       case rel => exact ⟨_, (true), (by first | rfl | (simp; done) | (simp [*]; done)), H', ⟨by have := HJ4.out; first | omega | exact Nat.le_refl _⟩, ⟨by (with_reducible repeat (first | apply Kd.V_alloc | apply Kd.V_drewN | apply Kd.V_drew)); exact Kd.V_mono (Kd.V_far (p := ⟨gb335, 1, none⟩) (Kd.V_far (p := ⟨gb335, 0, none⟩) (Kd.V_mono HO320.out (fun k_ hk => (⟨hk, hk.2.2.2.2.2⟩ : _ ∧ k_ ≠ gb335))) (fun _ hk => hk.2) (.slice Ao34 t330.length co34)) (fun _ hk => hk.2) (.int .i64 t333)) (fun _ hk => ⟨hk.1.2.2.1, ⟨hk.1.2.2.2.1, ⟨hk.1.2.2.2.2.1, hk.1.2.2.2.2.2⟩⟩⟩)⟩, ⟨by (with_reducible repeat (first | apply Kd.V_alloc | apply Kd.V_drewN | apply Kd.V_drew)); exact Kd.V_mono (Kd.V_far (p := ⟨gb335, 1, none⟩) (Kd.V_far (p := ⟨gb335, 0, none⟩) (Kd.V_mono HO332.out (fun k_ hk => (⟨hk, hk.2.2.2.2.2⟩ : _ ∧ k_ ≠ gb335))) (fun _ hk => hk.2) (.slice Ao34 t330.length co34)) (fun _ hk => hk.2) (.int .i64 t333)) (fun _ hk => ⟨hk.1.2.2.1, ⟨hk.1.2.2.2.1, ⟨hk.1.2.2.2.2.1, hk.1.2.2.2.2.2⟩⟩⟩)⟩, ⟨by (with_reducible repeat (first | refine blk_drewN ?_ _ | refine blk_drew ?_ | refine blk_alloc ?_ _)); refine blk_far ?_ NB315_335.out _; (with_reducible repeat (first | refine blk_drewN ?_ _ | refine blk_drew ?_ | refine blk_alloc ?_ _)); refine blk_far ?_ NB315_335.out _; (with_reducible repeat (first | refine blk_drewN ?_ _ | refine blk_drew ?_ | refine blk_alloc ?_ _)); exact BK315.out⟩, ⟨by (with_reducible repeat (first | refine blk_drewN ?_ _ | refine blk_drew ?_ | refine blk_alloc ?_ _)); refine blk_far ?_ NB316_335.out _; (with_reducible repeat (first | refine blk_drewN ?_ _ | refine blk_drew ?_ | refine blk_alloc ?_ _)); refine blk_far ?_ NB316_335.out _; (with_reducible repeat (first | refine blk_drewN ?_ _ | refine blk_drew ?_ | refine blk_alloc ?_ _)); exact BK316.out⟩, ⟨by (with_reducible repeat (first | refine blk_drewN ?_ _ | refine blk_drew ?_ | refine blk_alloc ?_ _)); refine blk_far ?_ NB323_335.out _; (with_reducible repeat (first | refine blk_drewN ?_ _ | refine blk_drew ?_ | refine blk_alloc ?_ _)); refine blk_far ?_ NB323_335.out _; (with_reducible repeat (first | refine blk_drewN ?_ _ | refine blk_drew ?_ | refine blk_alloc ?_ _)); exact BK323.out⟩, ⟨by (with_reducible repeat (first | refine blk_drewN ?_ _ | refine blk_drew ?_ | refine blk_alloc ?_ _)); refine blk_put (cs := #[.slice Ao34 t330.length co34, .int .i64 0]) ?_ 1 _ rfl; (with_reducible repeat (first | refine blk_drewN ?_ _ | refine blk_drew ?_ | refine blk_alloc ?_ _)); refine blk_put (cs := #[.slice none 0 0, .int .i64 0]) ?_ 0 _ rfl; (with_reducible repeat (first | refine blk_drewN ?_ _ | refine blk_drew ?_ | refine blk_alloc ?_ _)); exact BK335.out⟩, ⟨by repeat (first | (with_reducible first | exact HB.out | apply below_alloc | apply pw_below_drewN | apply below_drew1 | refine below_set ?_ GE315.out | refine below_set ?_ GE316.out | refine below_set ?_ GE323.out | refine below_set ?_ GE335.out) | exact HB.out)⟩⟩
     ·
      rw [if_neg c38] at H
      have c38b0 : (t317 == t336) = false := beq_eq_false_iff_ne.mpr c38
      have c38b1 : (t317 != t336) = true := bne_iff_ne.mpr c38
      (first | rw [c38b0] | (simp only [i64_w, i32_w]; rw [c38b0]) | skip)
      have H' := Aside0.mk H
      clear H
      obtain ⟨Ao56, co56, eo56⟩ := Kd.R_slice HO329.out
      subst eo56
      go_wp2_with (first | ((with_reducible refine gate_callee (f := 13) rfl ?_); refine goesL_ (some 56) rfl rfl Try.func13 (by kernel_rfl) rfl #[.slice Ao56 t327.length co56] rfl (by (try simp only [List.map_toArray, List.map_cons, List.map_nil]); first | done | rfl | (simp only [List.length_drop, List.length_take]; rfl)) ?_; (with_reducible refine (samphireref07_Number.calls kj4 _ _ t327 t336 _ ?side1 ?side2 A37.out).mono ?_); (case side1 => refine (Kd.R_reads' (e := 48) (base := w.heap.size) (ok := fun k_ => some k_ ≠ (v325 : Value).ownBlock) (n := t327.length) (c := co56) ?_).2.2; exact (by (with_reducible repeat (first | apply Kd.R_alloc | apply Kd.R_drewN | apply Kd.R_drew)); exact (Kd.R_mono (Kd.R_far (p := ⟨gb335, 1, none⟩) (Kd.R_far (p := ⟨gb335, 0, none⟩) (Kd.R_types HO329.out BK335.out (by decide)) (fun _ hk => hk.2) (.slice Ao34 t330.length co34)) (fun _ hk => hk.2) (.int .i64 t333)) (fun _ h_ => h_.1)))); (case side2 => exact (Kd.R_reads' HO329.out).2.1); rintro e w' ⟨rfl, ⟨nd, rfl⟩⟩; refine ⟨_, rfl, ?_⟩))
      go_meet
      case rel => exact ⟨_, (true), (by first | rfl | (simp; done) | (simp [*]; done)), H', ⟨by have := HJ4.out; first | omega | exact Nat.le_refl _⟩, ⟨by (with_reducible repeat (first | apply Kd.V_alloc | apply Kd.V_drewN | apply Kd.V_drew)); exact Kd.V_mono (Kd.V_far (p := ⟨gb335, 1, none⟩) (Kd.V_far (p := ⟨gb335, 0, none⟩) (Kd.V_mono HO320.out (fun k_ hk => (⟨hk, hk.2.2.2.2.2⟩ : _ ∧ k_ ≠ gb335))) (fun _ hk => hk.2) (.slice Ao34 t330.length co34)) (fun _ hk => hk.2) (.int .i64 t333)) (fun _ hk => ⟨hk.1.2.2.1, ⟨hk.1.2.2.2.1, ⟨hk.1.2.2.2.2.1, hk.1.2.2.2.2.2⟩⟩⟩)⟩, ⟨by (with_reducible repeat (first | apply Kd.V_alloc | apply Kd.V_drewN | apply Kd.V_drew)); exact Kd.V_mono (Kd.V_far (p := ⟨gb335, 1, none⟩) (Kd.V_far (p := ⟨gb335, 0, none⟩) (Kd.V_mono HO332.out (fun k_ hk => (⟨hk, hk.2.2.2.2.2⟩ : _ ∧ k_ ≠ gb335))) (fun _ hk => hk.2) (.slice Ao34 t330.length co34)) (fun _ hk => hk.2) (.int .i64 t333)) (fun _ hk => ⟨hk.1.2.2.1, ⟨hk.1.2.2.2.1, ⟨hk.1.2.2.2.2.1, hk.1.2.2.2.2.2⟩⟩⟩)⟩, ⟨by (with_reducible repeat (first | refine blk_drewN ?_ _ | refine blk_drew ?_ | refine blk_alloc ?_ _)); refine blk_far ?_ NB315_335.out _; (with_reducible repeat (first | refine blk_drewN ?_ _ | refine blk_drew ?_ | refine blk_alloc ?_ _)); refine blk_far ?_ NB315_335.out _; (with_reducible repeat (first | refine blk_drewN ?_ _ | refine blk_drew ?_ | refine blk_alloc ?_ _)); exact BK315.out⟩, ⟨by (with_reducible repeat (first | refine blk_drewN ?_ _ | refine blk_drew ?_ | refine blk_alloc ?_ _)); refine blk_far ?_ NB316_335.out _; (with_reducible repeat (first | refine blk_drewN ?_ _ | refine blk_drew ?_ | refine blk_alloc ?_ _)); refine blk_far ?_ NB316_335.out _; (with_reducible repeat (first | refine blk_drewN ?_ _ | refine blk_drew ?_ | refine blk_alloc ?_ _)); exact BK316.out⟩, ⟨by (with_reducible repeat (first | refine blk_drewN ?_ _ | refine blk_drew ?_ | refine blk_alloc ?_ _)); refine blk_far ?_ NB323_335.out _; (with_reducible repeat (first | refine blk_drewN ?_ _ | refine blk_drew ?_ | refine blk_alloc ?_ _)); refine blk_far ?_ NB323_335.out _; (with_reducible repeat (first | refine blk_drewN ?_ _ | refine blk_drew ?_ | refine blk_alloc ?_ _)); exact BK323.out⟩, ⟨by (with_reducible repeat (first | refine blk_drewN ?_ _ | refine blk_drew ?_ | refine blk_alloc ?_ _)); refine blk_put (cs := #[.slice Ao34 t330.length co34, .int .i64 0]) ?_ 1 _ rfl; (with_reducible repeat (first | refine blk_drewN ?_ _ | refine blk_drew ?_ | refine blk_alloc ?_ _)); refine blk_put (cs := #[.slice none 0 0, .int .i64 0]) ?_ 0 _ rfl; (with_reducible repeat (first | refine blk_drewN ?_ _ | refine blk_drew ?_ | refine blk_alloc ?_ _)); exact BK335.out⟩, ⟨by repeat (first | (with_reducible first | exact HB.out | apply below_alloc | apply pw_below_drewN | apply below_drew1 | refine below_set ?_ GE315.out | refine below_set ?_ GE316.out | refine below_set ?_ GE323.out | refine below_set ?_ GE335.out) | exact HB.out)⟩⟩
    case rest =>
     clear HC13
     try clear c1
     try clear p2
     try clear c3
     try clear c4
     try clear c5
     try clear c11
     try clear c12
     try clear c13
     try clear c38
     try clear c38b0
     try clear c38b1
     try clear c39
     try clear c39b0
     try clear c39b1
     try clear c41
     try clear c42
     try clear c43
     try clear c45
     try clear c46
     try clear c49
     try clear c50
     try clear c51
     try clear c53
     try clear c54
     try clear hcz44_0
     try clear hcz44_1
     try clear hcz47_0
     try clear hcz47_1
     try clear hcz52_0
     try clear hcz52_1
     try clear hcz55_0
     try clear hcz55_1
     try clear hfz44_0
     try clear hfz44_1
     try clear hfz47_0
     try clear hfz47_1
     try clear hfz52_0
     try clear hfz52_1
     try clear hfz55_0
     try clear hfz55_1
     obtain ⟨kq, x69_12, rfl, HA, HJ12, HO_324000, HO_336000, BK315, BK316, BK323, BK335, HB⟩ := hcut
     cases kq with
     | zero => exact absurd HA.out (by simp [samphirelaw07_DrawTells.j1])
     | succ kj12 =>
      have H := HA.out
      clear HA
      simp only [samphirelaw07_DrawTells.j1] at H
      by_cases c57 : x69_12 = true
      ·
       subst c57
       have H1 : (some false) = some r := by rw [if_pos rfl] at H; exact H
       clear H
       have H := H1
       clear H1
       obtain rfl := Option.some.inj H
       go_wp2
       go_ret
       exact ⟨by first | rfl | (simp [errW_none, errW_some] <;> rfl) | (simp [*, errW_none, errW_some] <;> rfl), by repeat (first | (with_reducible first | exact HB.out | apply below_alloc | apply pw_below_drewN | apply below_drew1 | refine below_set ?_ GE315.out | refine below_set ?_ GE316.out | refine below_set ?_ GE323.out | refine below_set ?_ GE335.out) | exact HB.out)⟩
      ·
       replace c57 := Bool.eq_false_iff.mpr c57
       subst c57
       have H1 : ((draw_BelowNat.f kj12 l0 a1 l3).bind fun bt337 => ((samphireref07_Below.f kj12 l0 a1 l3).bind fun bt346 => (if a1 ≥ 0 then (samphirelaw07_DrawTells.j2 kj12 l0 a1 bt337.1 bt337.2.2.2 bt346.1 bt346.2.2.2 0 (decide (a1 ≤ (l0.length : Int))) l0 a1 bt337.2.1 bt337.2.2.1 bt346.2.1 bt346.2.2.1) else (samphirelaw07_DrawTells.j2 kj12 l0 a1 bt337.1 bt337.2.2.2 bt346.1 bt346.2.2.2 0 false l0 a1 bt337.2.1 bt337.2.2.1 bt346.2.1 bt346.2.2.1)))) = some r := by rw [if_neg (show ¬ (false = true) by decide)] at H; exact H
       clear H
       have H := H1
       clear H1
       replace H := Option.bind_eq_some_iff.mp H
       obtain ⟨⟨t337, t340, t343, t344⟩, A580, H⟩ := H
       replace H : ((samphireref07_Below.f kj12 l0 a1 l3).bind fun bt346 => (if a1 ≥ 0 then (samphirelaw07_DrawTells.j2 kj12 l0 a1 t337 t344 bt346.1 bt346.2.2.2 0 (decide (a1 ≤ (l0.length : Int))) l0 a1 t340 t343 bt346.2.1 bt346.2.2.1) else (samphirelaw07_DrawTells.j2 kj12 l0 a1 t337 t344 bt346.1 bt346.2.2.2 0 false l0 a1 t340 t343 bt346.2.1 bt346.2.2.1))) = some r := H
       have A58 := Aside0.mk A580
       clear A580
       replace H := Option.bind_eq_some_iff.mp H
       obtain ⟨⟨t346, t349, t352, t353⟩, A590, H⟩ := H
       replace H : (if a1 ≥ 0 then (samphirelaw07_DrawTells.j2 kj12 l0 a1 t337 t344 t346 t353 0 (decide (a1 ≤ (l0.length : Int))) l0 a1 t340 t343 t349 t352) else (samphirelaw07_DrawTells.j2 kj12 l0 a1 t337 t344 t346 t353 0 false l0 a1 t340 t343 t349 t352)) = some r := H
       have A59 := Aside0.mk A590
       clear A590
       have HC60 := Aside0.mk H
       clear H
       have hnb61 := NB315_316.out
       have hnc61 := NB316_315.out
       have hnb62 := NB315_323.out
       have hnc62 := NB323_315.out
       have hnb63 := NB315_335.out
       have hnc63 := NB335_315.out
       have hcz64_0 : wc.cell? ⟨gb315, 0, none⟩ = some (.slice A0 l0.length c0) := (blk_cell BK315.out 0).trans rfl
       have hcz64_1 : wc.cell? ⟨gb315, 1, none⟩ = some (.int .i64 a1) := (blk_cell BK315.out 1).trans rfl
       have hfz64_0 := blk_frozen BK315.out 0
       have hfz64_1 := blk_frozen BK315.out 1
       go_upto_region 12 with (first | ((with_reducible refine gate_callee (f := 14) rfl ?_); refine goesL_ (some 73) rfl rfl Try.func14 (by kernel_rfl) rfl #[.agg #[.slice A0 l0.length c0, .int .i64 a1], .slice A3 l3.length c3] rfl (by (try simp only [List.map_toArray, List.map_cons, List.map_nil]); first | done | rfl | (simp only [List.length_drop, List.length_take]; rfl)) ?_; (with_reducible refine (draw_BelowNat.calls kj12 (fun k_ => k_ < w.heap.size) _ _ l0 a1 _ _ l3 t337 t340 t343 t344 _ ?side1 ?side2 ?side3 A58.out).mono ?_); (case side1 => exact Kd.V_mk HC0.out (Kd.F_below (Kd.C_F (Kd.heap_int .u64) HR0.out) (by repeat (first | (with_reducible first | exact HB.out | apply below_alloc | apply pw_below_drewN | apply below_drew1 | refine below_set ?_ GE315.out | refine below_set ?_ GE316.out | refine below_set ?_ GE323.out | refine below_set ?_ GE335.out) | exact HB.out)))); (case side2 => repeat (first | exact (Kd.C_below HR3.out HB.out) | (with_reducible refine Kd.C_alloc ?_ _) | (with_reducible refine Kd.C_drewN ?_ _) | (with_reducible refine Kd.C_drew ?_))); (case side3 => exact HC3.out); rintro e w65 ⟨v338, v341, rfl, ho0, ho1, hb⟩; refine ⟨_, rfl, ?_⟩; have n0_ := Aside0.mk (Kd.V_elder' (by (with_reducible repeat (first | apply Kd.V_alloc | apply Kd.V_drewN | apply Kd.V_drew)); exact HO_324000.out) (Kd.R_base ho0) hb); have n1_ := Aside0.mk (Kd.V_elder' (by (with_reducible repeat (first | apply Kd.V_alloc | apply Kd.V_drewN | apply Kd.V_drew)); exact HO_336000.out) (Kd.R_base ho0) hb); have n2_ := Aside0.mk (Kd.R_lower (Kd.R_mono (ok' := fun k_ => True) ho0 (fun _ hk_ => trivial)) (below_size (by repeat (first | (with_reducible first | exact HB.out | apply below_alloc | apply pw_below_drewN | apply below_drew1 | refine below_set ?_ GE315.out | refine below_set ?_ GE316.out | refine below_set ?_ GE323.out | refine below_set ?_ GE335.out) | exact HB.out)))); have n3_ := Aside0.mk (Kd.V_lower (Kd.V_mono (ok' := fun k_ => some k_ ≠ (v338 : Value).ownBlock ∧ k_ ≠ gb315 ∧ k_ ≠ gb316 ∧ k_ ≠ gb323 ∧ k_ ≠ gb335) ho1 (fun k_ hk_ => ⟨hk_.2, Or.elim hk_.1 (fun hs_ => fun e_ => Nat.not_le.2 hs_ (by rw [e_]; exact GW315.out)) (fun hn_ => (Kd.freshB (g := gb315) (o := .cells #[.slice A0 l0.length c0, .int .i64 a1] 28 (0, 0)) (by (with_reducible repeat (first | refine blk_drewN ?_ _ | refine blk_drew ?_ | refine blk_alloc ?_ _)); exact BK315.out) k_ hn_)), Or.elim hk_.1 (fun hs_ => fun e_ => Nat.not_le.2 hs_ (by rw [e_]; exact GW316.out)) (fun hn_ => (Kd.freshB (g := gb316) (o := .cells #[.slice A0 l0.length c0, .int .i64 a1] 29 (0, 0)) (by (with_reducible repeat (first | refine blk_drewN ?_ _ | refine blk_drew ?_ | refine blk_alloc ?_ _)); exact BK316.out) k_ hn_)), Or.elim hk_.1 (fun hs_ => fun e_ => Nat.not_le.2 hs_ (by rw [e_]; exact GW323.out)) (fun hn_ => (Kd.freshB (g := gb323) (o := .cells #[.slice Ao23 t318.length co23, .int .i64 t321] 28 (0, 0)) (by (with_reducible repeat (first | refine blk_drewN ?_ _ | refine blk_drew ?_ | refine blk_alloc ?_ _)); exact BK323.out) k_ hn_)), Or.elim hk_.1 (fun hs_ => fun e_ => Nat.not_le.2 hs_ (by rw [e_]; exact GW335.out)) (fun hn_ => (Kd.freshB (g := gb335) (o := .cells #[.slice Ao34 t330.length co34, .int .i64 t333] 29 (0, 0)) (by (with_reducible repeat (first | refine blk_drewN ?_ _ | refine blk_drew ?_ | refine blk_alloc ?_ _)); exact BK335.out) k_ hn_))⟩)) (below_size (by repeat (first | (with_reducible first | exact HB.out | apply below_alloc | apply pw_below_drewN | apply below_drew1 | refine below_set ?_ GE315.out | refine below_set ?_ GE316.out | refine below_set ?_ GE323.out | refine below_set ?_ GE335.out) | exact HB.out)))); have n4_ := Aside0.mk (blk_below (g := gb315) (o := .cells #[.slice A0 l0.length c0, .int .i64 a1] 28 (0, 0)) (by (with_reducible repeat (first | refine blk_drewN ?_ _ | refine blk_drew ?_ | refine blk_alloc ?_ _)); exact BK315.out) hb); have n5_ := Aside0.mk (blk_below (g := gb316) (o := .cells #[.slice A0 l0.length c0, .int .i64 a1] 29 (0, 0)) (by (with_reducible repeat (first | refine blk_drewN ?_ _ | refine blk_drew ?_ | refine blk_alloc ?_ _)); exact BK316.out) hb); have n6_ := Aside0.mk (blk_below (g := gb323) (o := .cells #[.slice Ao23 t318.length co23, .int .i64 t321] 28 (0, 0)) (by (with_reducible repeat (first | refine blk_drewN ?_ _ | refine blk_drew ?_ | refine blk_alloc ?_ _)); exact BK323.out) hb); have n7_ := Aside0.mk (blk_below (g := gb335) (o := .cells #[.slice Ao34 t330.length co34, .int .i64 t333] 29 (0, 0)) (by (with_reducible repeat (first | refine blk_drewN ?_ _ | refine blk_drew ?_ | refine blk_alloc ?_ _)); exact BK335.out) hb); have n8_ := Aside0.mk (below_step (by repeat (first | (with_reducible first | exact HB.out | apply below_alloc | apply pw_below_drewN | apply below_drew1 | refine below_set ?_ GE315.out | refine below_set ?_ GE316.out | refine below_set ?_ GE323.out | refine below_set ?_ GE335.out) | exact HB.out)) hb); clear HO_324000; clear HO_336000; clear BK315; clear BK316; clear BK323; clear BK335; clear HB; have HO_324000 := n0_; have HO_336000 := n1_; have HO339 := n2_; have HO342 := n3_; have BK315 := n4_; have BK316 := n5_; have BK323 := n6_; have BK335 := n7_; have HB := n8_; clear n0_ n1_ n2_ n3_ n4_ n5_ n6_ n7_ n8_; (try clear hb); (try clear hb2); (try clear hk); (try clear hi); (try clear ho0); (try clear ho1)) | ((with_reducible refine gate_dst (N := 18) rfl ?_); (try (refine gate_guard (by rfl) ?_; dsimp only)); refine box_event ?hg (N := 18) ?hd (cs := #[.slice none 0 0, .int .i64 0]) (t := 28) ?hr ?_; (case hd => rfl); (case hg => rfl); (case hr => first | (go_simp; done) | (go_simp; rfl)); intro gb345 hg w66 hbox hb; have n0_ := Aside0.mk (Kd.V_below (Kd.V_elderB (by (with_reducible repeat (first | apply Kd.V_alloc | apply Kd.V_drewN | apply Kd.V_drew)); exact HO_324000.out) gb345 (Nat.le_of_eq hg.symm)) hb); have n1_ := Aside0.mk (Kd.V_below (Kd.V_elderB (by (with_reducible repeat (first | apply Kd.V_alloc | apply Kd.V_drewN | apply Kd.V_drew)); exact HO_336000.out) gb345 (Nat.le_of_eq hg.symm)) hb); have n2_ := Aside0.mk (Kd.R_below (by (with_reducible repeat (first | apply Kd.R_alloc | apply Kd.R_drewN | apply Kd.R_drew)); exact HO339.out) hb); have n3_ := Aside0.mk (Kd.V_below (Kd.V_elderB (by (with_reducible repeat (first | apply Kd.V_alloc | apply Kd.V_drewN | apply Kd.V_drew)); exact HO342.out) gb345 (Nat.le_of_eq hg.symm)) hb); have n4_ := Aside0.mk (blk_below (g := gb315) (o := .cells #[.slice A0 l0.length c0, .int .i64 a1] 28 (0, 0)) (by (with_reducible repeat (first | refine blk_drewN ?_ _ | refine blk_drew ?_ | refine blk_alloc ?_ _)); exact BK315.out) hb); have n5_ := Aside0.mk (blk_below (g := gb316) (o := .cells #[.slice A0 l0.length c0, .int .i64 a1] 29 (0, 0)) (by (with_reducible repeat (first | refine blk_drewN ?_ _ | refine blk_drew ?_ | refine blk_alloc ?_ _)); exact BK316.out) hb); have n6_ := Aside0.mk (blk_below (g := gb323) (o := .cells #[.slice Ao23 t318.length co23, .int .i64 t321] 28 (0, 0)) (by (with_reducible repeat (first | refine blk_drewN ?_ _ | refine blk_drew ?_ | refine blk_alloc ?_ _)); exact BK323.out) hb); have n7_ := Aside0.mk (blk_below (g := gb335) (o := .cells #[.slice Ao34 t330.length co34, .int .i64 t333] 29 (0, 0)) (by (with_reducible repeat (first | refine blk_drewN ?_ _ | refine blk_drew ?_ | refine blk_alloc ?_ _)); exact BK335.out) hb); have n8_ := Aside0.mk (below_step (by repeat (first | (with_reducible first | exact HB.out | apply below_alloc | apply pw_below_drewN | apply below_drew1 | refine below_set ?_ GE315.out | refine below_set ?_ GE316.out | refine below_set ?_ GE323.out | refine below_set ?_ GE335.out) | exact HB.out)) hb); have n9_ := Aside0.mk (hbox); have n10_ := Aside0.mk ((by rw [hg]; exact (below_size (by repeat (first | (with_reducible first | exact HB.out | apply below_alloc | apply pw_below_drewN | apply below_drew1 | refine below_set ?_ GE315.out | refine below_set ?_ GE316.out | refine below_set ?_ GE323.out | refine below_set ?_ GE335.out) | exact HB.out))) : w.heap.size ≤ gb345)); have n11_ := Aside0.mk ((by rw [hg]; exact (below_size (by repeat (first | (with_reducible first | exact HB.out | apply below_alloc | apply pw_below_drewN | apply below_drew1 | refine below_set ?_ GE315.out | refine below_set ?_ GE316.out | refine below_set ?_ GE323.out | refine below_set ?_ GE335.out) | exact HB.out))) : w.heap.size ≤ gb345)); have n12_ := Aside0.mk ((by rw [hg]; exact Nat.ne_of_lt (blk_lt (g := gb315) (o := .cells #[.slice A0 l0.length c0, .int .i64 a1] 28 (0, 0)) (by (with_reducible repeat (first | refine blk_drewN ?_ _ | refine blk_drew ?_ | refine blk_alloc ?_ _)); exact BK315.out)) : gb315 ≠ gb345)); have n13_ := Aside0.mk ((by rw [hg]; exact Nat.ne_of_gt (blk_lt (g := gb315) (o := .cells #[.slice A0 l0.length c0, .int .i64 a1] 28 (0, 0)) (by (with_reducible repeat (first | refine blk_drewN ?_ _ | refine blk_drew ?_ | refine blk_alloc ?_ _)); exact BK315.out)) : gb345 ≠ gb315)); have n14_ := Aside0.mk ((by rw [hg]; exact Nat.ne_of_lt (blk_lt (g := gb316) (o := .cells #[.slice A0 l0.length c0, .int .i64 a1] 29 (0, 0)) (by (with_reducible repeat (first | refine blk_drewN ?_ _ | refine blk_drew ?_ | refine blk_alloc ?_ _)); exact BK316.out)) : gb316 ≠ gb345)); have n15_ := Aside0.mk ((by rw [hg]; exact Nat.ne_of_gt (blk_lt (g := gb316) (o := .cells #[.slice A0 l0.length c0, .int .i64 a1] 29 (0, 0)) (by (with_reducible repeat (first | refine blk_drewN ?_ _ | refine blk_drew ?_ | refine blk_alloc ?_ _)); exact BK316.out)) : gb345 ≠ gb316)); have n16_ := Aside0.mk ((by rw [hg]; exact Nat.ne_of_lt (blk_lt (g := gb323) (o := .cells #[.slice Ao23 t318.length co23, .int .i64 t321] 28 (0, 0)) (by (with_reducible repeat (first | refine blk_drewN ?_ _ | refine blk_drew ?_ | refine blk_alloc ?_ _)); exact BK323.out)) : gb323 ≠ gb345)); have n17_ := Aside0.mk ((by rw [hg]; exact Nat.ne_of_gt (blk_lt (g := gb323) (o := .cells #[.slice Ao23 t318.length co23, .int .i64 t321] 28 (0, 0)) (by (with_reducible repeat (first | refine blk_drewN ?_ _ | refine blk_drew ?_ | refine blk_alloc ?_ _)); exact BK323.out)) : gb345 ≠ gb323)); have n18_ := Aside0.mk ((by rw [hg]; exact Nat.ne_of_lt (blk_lt (g := gb335) (o := .cells #[.slice Ao34 t330.length co34, .int .i64 t333] 29 (0, 0)) (by (with_reducible repeat (first | refine blk_drewN ?_ _ | refine blk_drew ?_ | refine blk_alloc ?_ _)); exact BK335.out)) : gb335 ≠ gb345)); have n19_ := Aside0.mk ((by rw [hg]; exact Nat.ne_of_gt (blk_lt (g := gb335) (o := .cells #[.slice Ao34 t330.length co34, .int .i64 t333] 29 (0, 0)) (by (with_reducible repeat (first | refine blk_drewN ?_ _ | refine blk_drew ?_ | refine blk_alloc ?_ _)); exact BK335.out)) : gb345 ≠ gb335)); clear HO_324000; clear HO_336000; clear HO339; clear HO342; clear BK315; clear BK316; clear BK323; clear BK335; clear HB; have HO_324000 := n0_; have HO_336000 := n1_; have HO339 := n2_; have HO342 := n3_; have BK315 := n4_; have BK316 := n5_; have BK323 := n6_; have BK335 := n7_; have HB := n8_; have BK345 := n9_; have GW345 := n10_; have GE345 := n11_; have NB315_345 := n12_; have NB345_315 := n13_; have NB316_345 := n14_; have NB345_316 := n15_; have NB323_345 := n16_; have NB345_323 := n17_; have NB335_345 := n18_; have NB345_335 := n19_; clear n0_ n1_ n2_ n3_ n4_ n5_ n6_ n7_ n8_ n9_ n10_ n11_ n12_ n13_ n14_ n15_ n16_ n17_ n18_ n19_; clear hb hbox hg; obtain ⟨Ao67, co67, eo67⟩ := Kd.V_slice HO342.out; subst eo67; have hnb68 := NB345_315.out; have hnc68 := NB315_345.out; have hnb69 := NB345_316.out; have hnc69 := NB316_345.out; have hnb70 := NB345_323.out; have hnc70 := NB323_345.out; have hnb71 := NB345_335.out; have hnc71 := NB335_345.out; have hcz72_0 : w66.cell? ⟨gb345, 0, none⟩ = some (.slice none 0 0) := (blk_cell BK345.out 0).trans rfl; have hcz72_1 : w66.cell? ⟨gb345, 1, none⟩ = some (.int .i64 0) := (blk_cell BK345.out 1).trans rfl; have hfz72_0 := blk_frozen BK345.out 0; have hfz72_1 := blk_frozen BK345.out 1) | ((with_reducible refine gate_store (t := 28) (p := 18) rfl ?_); refine store_event (t := 28) (p := 18) (v := ?vo_w73) (w1 := ((w66.setCell ⟨gb345, 0, none⟩ (.slice Ao67 t340.length co67)).setCell ⟨gb345, 1, none⟩ (.int .i64 t343))) ?hg ?ho ?hn ?hr ?_; (case ho => rfl); (case hg => rfl); (case hn => rfl); (case hr => first | (go_simp; done) | (go_simp; rfl)); intro w73 hw; have n0_ : Aside0 (Kd.V (Kd.int .u64) 23 w73 w.heap.size (fun k_ => some k_ ≠ (v338 : Value).ownBlock ∧ k_ ≠ gb315 ∧ k_ ≠ gb316 ∧ k_ ≠ gb323 ∧ k_ ≠ gb335 ∧ k_ ≠ gb345) (.slice Ao23 t318.length co23) t318) := ⟨(by rw [hw]; exact (by (with_reducible repeat (first | apply Kd.V_alloc | apply Kd.V_drewN | apply Kd.V_drew)); exact Kd.V_mono (Kd.V_far (p := ⟨gb345, 1, none⟩) (Kd.V_far (p := ⟨gb345, 0, none⟩) (Kd.V_mono HO_324000.out (fun k_ hk => (⟨hk, hk.2⟩ : _ ∧ k_ ≠ gb345))) (fun _ hk => hk.2) (.slice Ao67 t340.length co67)) (fun _ hk => hk.2) (.int .i64 t343)) (fun _ hk => ⟨hk.1.1.2, ⟨hk.1.1.1.1, ⟨hk.1.1.1.2.1, ⟨hk.1.1.1.2.2.1, ⟨hk.1.1.1.2.2.2, hk.1.2⟩⟩⟩⟩⟩)))⟩; have n1_ : Aside0 (Kd.V (Kd.int .u64) 23 w73 w.heap.size (fun k_ => some k_ ≠ (v338 : Value).ownBlock ∧ k_ ≠ gb315 ∧ k_ ≠ gb316 ∧ k_ ≠ gb323 ∧ k_ ≠ gb335 ∧ k_ ≠ gb345) (.slice Ao34 t330.length co34) t330) := ⟨(by rw [hw]; exact (by (with_reducible repeat (first | apply Kd.V_alloc | apply Kd.V_drewN | apply Kd.V_drew)); exact Kd.V_mono (Kd.V_far (p := ⟨gb345, 1, none⟩) (Kd.V_far (p := ⟨gb345, 0, none⟩) (Kd.V_mono HO_336000.out (fun k_ hk => (⟨hk, hk.2⟩ : _ ∧ k_ ≠ gb345))) (fun _ hk => hk.2) (.slice Ao67 t340.length co67)) (fun _ hk => hk.2) (.int .i64 t343)) (fun _ hk => ⟨hk.1.1.2, ⟨hk.1.1.1.1, ⟨hk.1.1.1.2.1, ⟨hk.1.1.1.2.2.1, ⟨hk.1.1.1.2.2.2, hk.1.2⟩⟩⟩⟩⟩)))⟩; have n2_ : Aside0 (Kd.R (Kd.int .u32) 48 w73 w.heap.size (fun _ => True) v338 t337) := ⟨(by rw [hw]; exact (by (with_reducible repeat (first | apply Kd.R_alloc | apply Kd.R_drewN | apply Kd.R_drew)); exact Kd.R_mono (Kd.R_far (p := ⟨gb345, 1, none⟩) (Kd.R_far (p := ⟨gb345, 0, none⟩) (Kd.R_types HO339.out BK345.out (by decide)) (fun _ hk => hk.2) (.slice Ao67 t340.length co67)) (fun _ hk => hk.2) (.int .i64 t343)) (fun _ hk => trivial)))⟩; have n3_ : Aside0 (Kd.V (Kd.int .u64) 23 w73 w.heap.size (fun k_ => some k_ ≠ (v338 : Value).ownBlock ∧ k_ ≠ gb315 ∧ k_ ≠ gb316 ∧ k_ ≠ gb323 ∧ k_ ≠ gb335 ∧ k_ ≠ gb345) (.slice Ao67 t340.length co67) t340) := ⟨(by rw [hw]; exact (by (with_reducible repeat (first | apply Kd.V_alloc | apply Kd.V_drewN | apply Kd.V_drew)); exact Kd.V_mono (Kd.V_far (p := ⟨gb345, 1, none⟩) (Kd.V_far (p := ⟨gb345, 0, none⟩) (Kd.V_mono HO342.out (fun k_ hk => (⟨hk, hk.2⟩ : _ ∧ k_ ≠ gb345))) (fun _ hk => hk.2) (.slice Ao67 t340.length co67)) (fun _ hk => hk.2) (.int .i64 t343)) (fun _ hk => ⟨hk.1.1.1, ⟨hk.1.1.2.1, ⟨hk.1.1.2.2.1, ⟨hk.1.1.2.2.2.1, ⟨hk.1.1.2.2.2.2, hk.1.2⟩⟩⟩⟩⟩)))⟩; have n4_ : Aside0 (w73.heap[gb315]? = some (.cells #[.slice A0 l0.length c0, .int .i64 a1] 28 (0, 0))) := ⟨(by rw [hw]; exact (by (with_reducible repeat (first | refine blk_drewN ?_ _ | refine blk_drew ?_ | refine blk_alloc ?_ _)); refine blk_far ?_ NB315_345.out _; (with_reducible repeat (first | refine blk_drewN ?_ _ | refine blk_drew ?_ | refine blk_alloc ?_ _)); refine blk_far ?_ NB315_345.out _; (with_reducible repeat (first | refine blk_drewN ?_ _ | refine blk_drew ?_ | refine blk_alloc ?_ _)); exact BK315.out))⟩; have n5_ : Aside0 (w73.heap[gb316]? = some (.cells #[.slice A0 l0.length c0, .int .i64 a1] 29 (0, 0))) := ⟨(by rw [hw]; exact (by (with_reducible repeat (first | refine blk_drewN ?_ _ | refine blk_drew ?_ | refine blk_alloc ?_ _)); refine blk_far ?_ NB316_345.out _; (with_reducible repeat (first | refine blk_drewN ?_ _ | refine blk_drew ?_ | refine blk_alloc ?_ _)); refine blk_far ?_ NB316_345.out _; (with_reducible repeat (first | refine blk_drewN ?_ _ | refine blk_drew ?_ | refine blk_alloc ?_ _)); exact BK316.out))⟩; have n6_ : Aside0 (w73.heap[gb323]? = some (.cells #[.slice Ao23 t318.length co23, .int .i64 t321] 28 (0, 0))) := ⟨(by rw [hw]; exact (by (with_reducible repeat (first | refine blk_drewN ?_ _ | refine blk_drew ?_ | refine blk_alloc ?_ _)); refine blk_far ?_ NB323_345.out _; (with_reducible repeat (first | refine blk_drewN ?_ _ | refine blk_drew ?_ | refine blk_alloc ?_ _)); refine blk_far ?_ NB323_345.out _; (with_reducible repeat (first | refine blk_drewN ?_ _ | refine blk_drew ?_ | refine blk_alloc ?_ _)); exact BK323.out))⟩; have n7_ : Aside0 (w73.heap[gb335]? = some (.cells #[.slice Ao34 t330.length co34, .int .i64 t333] 29 (0, 0))) := ⟨(by rw [hw]; exact (by (with_reducible repeat (first | refine blk_drewN ?_ _ | refine blk_drew ?_ | refine blk_alloc ?_ _)); refine blk_far ?_ NB335_345.out _; (with_reducible repeat (first | refine blk_drewN ?_ _ | refine blk_drew ?_ | refine blk_alloc ?_ _)); refine blk_far ?_ NB335_345.out _; (with_reducible repeat (first | refine blk_drewN ?_ _ | refine blk_drew ?_ | refine blk_alloc ?_ _)); exact BK335.out))⟩; have n8_ : Aside0 (w73.heap[gb345]? = some (.cells #[.slice Ao67 t340.length co67, .int .i64 t343] 28 (0, 0))) := ⟨(by rw [hw]; exact (by (with_reducible repeat (first | refine blk_drewN ?_ _ | refine blk_drew ?_ | refine blk_alloc ?_ _)); refine blk_put (cs := #[.slice Ao67 t340.length co67, .int .i64 0]) ?_ 1 _ rfl; (with_reducible repeat (first | refine blk_drewN ?_ _ | refine blk_drew ?_ | refine blk_alloc ?_ _)); refine blk_put (cs := #[.slice none 0 0, .int .i64 0]) ?_ 0 _ rfl; (with_reducible repeat (first | refine blk_drewN ?_ _ | refine blk_drew ?_ | refine blk_alloc ?_ _)); exact BK345.out))⟩; have n9_ : Aside0 (Below w.heap.size w w73) := ⟨(by rw [hw]; exact (by repeat (first | (with_reducible first | exact HB.out | apply below_alloc | apply pw_below_drewN | apply below_drew1 | refine below_set ?_ GE315.out | refine below_set ?_ GE316.out | refine below_set ?_ GE323.out | refine below_set ?_ GE335.out | refine below_set ?_ GE345.out) | exact HB.out)))⟩; clear hw; clear HO_324000; clear HO_336000; clear HO339; clear HO342; clear BK315; clear BK316; clear BK323; clear BK335; clear BK345; clear HB; have HO_324000 := n0_; have HO_336000 := n1_; have HO339 := n2_; have HO342 := n3_; have BK315 := n4_; have BK316 := n5_; have BK323 := n6_; have BK335 := n7_; have BK345 := n8_; have HB := n9_; clear n0_ n1_ n2_ n3_ n4_ n5_ n6_ n7_ n8_ n9_; have hnb74 := NB316_323.out; have hnc74 := NB323_316.out; have hnb75 := NB316_335.out; have hnc75 := NB335_316.out; have hcz76_0 : w73.cell? ⟨gb316, 0, none⟩ = some (.slice A0 l0.length c0) := (blk_cell BK316.out 0).trans rfl; have hcz76_1 : w73.cell? ⟨gb316, 1, none⟩ = some (.int .i64 a1) := (blk_cell BK316.out 1).trans rfl; have hfz76_0 := blk_frozen BK316.out 0; have hfz76_1 := blk_frozen BK316.out 1) | ((with_reducible refine gate_callee (f := 11) rfl ?_); refine goesL_ (some 80) rfl rfl Try.func11 (by kernel_rfl) rfl #[.agg #[.slice A0 l0.length c0, .int .i64 a1], .slice A3 l3.length c3] rfl (by (try simp only [List.map_toArray, List.map_cons, List.map_nil]); first | done | rfl | (simp only [List.length_drop, List.length_take]; rfl)) ?_; (with_reducible refine (samphireref07_Below.calls kj12 (fun k_ => k_ < w.heap.size) _ _ l0 a1 _ _ l3 t346 t349 t352 t353 _ ?side1 ?side2 ?side3 A59.out).mono ?_); (case side1 => exact Kd.V_mk HC0.out (Kd.F_below (Kd.C_F (Kd.heap_int .u64) HR0.out) (by repeat (first | (with_reducible first | exact HB.out | apply below_alloc | apply pw_below_drewN | apply below_drew1 | refine below_set ?_ GE315.out | refine below_set ?_ GE316.out | refine below_set ?_ GE323.out | refine below_set ?_ GE335.out | refine below_set ?_ GE345.out) | exact HB.out)))); (case side2 => repeat (first | exact (Kd.C_below HR3.out HB.out) | (with_reducible refine Kd.C_alloc ?_ _) | (with_reducible refine Kd.C_drewN ?_ _) | (with_reducible refine Kd.C_drew ?_))); (case side3 => exact HC3.out); rintro e w77 ⟨v347, v350, rfl, ho0, ho1, hb⟩; refine ⟨_, rfl, ?_⟩; have n0_ := Aside0.mk (Kd.V_elder' (by (with_reducible repeat (first | apply Kd.V_alloc | apply Kd.V_drewN | apply Kd.V_drew)); exact HO_324000.out) (Kd.R_base ho0) hb); have n1_ := Aside0.mk (Kd.V_elder' (by (with_reducible repeat (first | apply Kd.V_alloc | apply Kd.V_drewN | apply Kd.V_drew)); exact HO_336000.out) (Kd.R_base ho0) hb); have n2_ := Aside0.mk (Kd.R_elder' (by (with_reducible repeat (first | apply Kd.R_alloc | apply Kd.R_drewN | apply Kd.R_drew)); exact HO339.out) (Kd.R_base ho0) hb); have n3_ := Aside0.mk (Kd.V_elder' (by (with_reducible repeat (first | apply Kd.V_alloc | apply Kd.V_drewN | apply Kd.V_drew)); exact HO342.out) (Kd.R_base ho0) hb); have n4_ := Aside0.mk (Kd.R_lower (Kd.R_new' (Kd.R_mono (ok' := fun k_ => True) ho0 (fun _ hk_ => trivial)) (Kd.R_lt (by (with_reducible repeat (first | apply Kd.R_alloc | apply Kd.R_drewN | apply Kd.R_drew)); exact HO339.out))) (below_size (by repeat (first | (with_reducible first | exact HB.out | apply below_alloc | apply pw_below_drewN | apply below_drew1 | refine below_set ?_ GE315.out | refine below_set ?_ GE316.out | refine below_set ?_ GE323.out | refine below_set ?_ GE335.out | refine below_set ?_ GE345.out) | exact HB.out)))); have n5_ := Aside0.mk (Kd.V_lower (Kd.V_mono (ok' := fun k_ => some k_ ≠ (v347 : Value).ownBlock ∧ some k_ ≠ (v338 : Value).ownBlock ∧ k_ ≠ gb315 ∧ k_ ≠ gb316 ∧ k_ ≠ gb323 ∧ k_ ≠ gb335 ∧ k_ ≠ gb345) ho1 (fun k_ hk_ => ⟨hk_.2, Or.elim hk_.1 (fun hs_ => fun e_ => Nat.not_le.2 hs_ (Kd.R_base HO339.out k_ e_.symm)) (fun hn_ => (Kd.fresh' (Kd.R_lt (by (with_reducible repeat (first | apply Kd.R_alloc | apply Kd.R_drewN | apply Kd.R_drew)); exact HO339.out)) k_ hn_)), Or.elim hk_.1 (fun hs_ => fun e_ => Nat.not_le.2 hs_ (by rw [e_]; exact GW315.out)) (fun hn_ => (Kd.freshB (g := gb315) (o := .cells #[.slice A0 l0.length c0, .int .i64 a1] 28 (0, 0)) (by (with_reducible repeat (first | refine blk_drewN ?_ _ | refine blk_drew ?_ | refine blk_alloc ?_ _)); exact BK315.out) k_ hn_)), Or.elim hk_.1 (fun hs_ => fun e_ => Nat.not_le.2 hs_ (by rw [e_]; exact GW316.out)) (fun hn_ => (Kd.freshB (g := gb316) (o := .cells #[.slice A0 l0.length c0, .int .i64 a1] 29 (0, 0)) (by (with_reducible repeat (first | refine blk_drewN ?_ _ | refine blk_drew ?_ | refine blk_alloc ?_ _)); exact BK316.out) k_ hn_)), Or.elim hk_.1 (fun hs_ => fun e_ => Nat.not_le.2 hs_ (by rw [e_]; exact GW323.out)) (fun hn_ => (Kd.freshB (g := gb323) (o := .cells #[.slice Ao23 t318.length co23, .int .i64 t321] 28 (0, 0)) (by (with_reducible repeat (first | refine blk_drewN ?_ _ | refine blk_drew ?_ | refine blk_alloc ?_ _)); exact BK323.out) k_ hn_)), Or.elim hk_.1 (fun hs_ => fun e_ => Nat.not_le.2 hs_ (by rw [e_]; exact GW335.out)) (fun hn_ => (Kd.freshB (g := gb335) (o := .cells #[.slice Ao34 t330.length co34, .int .i64 t333] 29 (0, 0)) (by (with_reducible repeat (first | refine blk_drewN ?_ _ | refine blk_drew ?_ | refine blk_alloc ?_ _)); exact BK335.out) k_ hn_)), Or.elim hk_.1 (fun hs_ => fun e_ => Nat.not_le.2 hs_ (by rw [e_]; exact GW345.out)) (fun hn_ => (Kd.freshB (g := gb345) (o := .cells #[.slice Ao67 t340.length co67, .int .i64 t343] 28 (0, 0)) (by (with_reducible repeat (first | refine blk_drewN ?_ _ | refine blk_drew ?_ | refine blk_alloc ?_ _)); exact BK345.out) k_ hn_))⟩)) (below_size (by repeat (first | (with_reducible first | exact HB.out | apply below_alloc | apply pw_below_drewN | apply below_drew1 | refine below_set ?_ GE315.out | refine below_set ?_ GE316.out | refine below_set ?_ GE323.out | refine below_set ?_ GE335.out | refine below_set ?_ GE345.out) | exact HB.out)))); have n6_ := Aside0.mk (blk_below (g := gb315) (o := .cells #[.slice A0 l0.length c0, .int .i64 a1] 28 (0, 0)) (by (with_reducible repeat (first | refine blk_drewN ?_ _ | refine blk_drew ?_ | refine blk_alloc ?_ _)); exact BK315.out) hb); have n7_ := Aside0.mk (blk_below (g := gb316) (o := .cells #[.slice A0 l0.length c0, .int .i64 a1] 29 (0, 0)) (by (with_reducible repeat (first | refine blk_drewN ?_ _ | refine blk_drew ?_ | refine blk_alloc ?_ _)); exact BK316.out) hb); have n8_ := Aside0.mk (blk_below (g := gb323) (o := .cells #[.slice Ao23 t318.length co23, .int .i64 t321] 28 (0, 0)) (by (with_reducible repeat (first | refine blk_drewN ?_ _ | refine blk_drew ?_ | refine blk_alloc ?_ _)); exact BK323.out) hb); have n9_ := Aside0.mk (blk_below (g := gb335) (o := .cells #[.slice Ao34 t330.length co34, .int .i64 t333] 29 (0, 0)) (by (with_reducible repeat (first | refine blk_drewN ?_ _ | refine blk_drew ?_ | refine blk_alloc ?_ _)); exact BK335.out) hb); have n10_ := Aside0.mk (blk_below (g := gb345) (o := .cells #[.slice Ao67 t340.length co67, .int .i64 t343] 28 (0, 0)) (by (with_reducible repeat (first | refine blk_drewN ?_ _ | refine blk_drew ?_ | refine blk_alloc ?_ _)); exact BK345.out) hb); have n11_ := Aside0.mk (below_step (by repeat (first | (with_reducible first | exact HB.out | apply below_alloc | apply pw_below_drewN | apply below_drew1 | refine below_set ?_ GE315.out | refine below_set ?_ GE316.out | refine below_set ?_ GE323.out | refine below_set ?_ GE335.out | refine below_set ?_ GE345.out) | exact HB.out)) hb); clear HO_324000; clear HO_336000; clear HO339; clear HO342; clear BK315; clear BK316; clear BK323; clear BK335; clear BK345; clear HB; have HO_324000 := n0_; have HO_336000 := n1_; have HO339 := n2_; have HO342 := n3_; have HO348 := n4_; have HO351 := n5_; have BK315 := n6_; have BK316 := n7_; have BK323 := n8_; have BK335 := n9_; have BK345 := n10_; have HB := n11_; clear n0_ n1_ n2_ n3_ n4_ n5_ n6_ n7_ n8_ n9_ n10_ n11_; (try clear hb); (try clear hb2); (try clear hk); (try clear hi); (try clear ho0); (try clear ho1)) | ((with_reducible refine gate_dst (N := 21) rfl ?_); (try (refine gate_guard (by rfl) ?_; dsimp only)); refine box_event ?hg (N := 21) ?hd (cs := #[.slice none 0 0, .int .i64 0]) (t := 29) ?hr ?_; (case hd => rfl); (case hg => rfl); (case hr => first | (go_simp; done) | (go_simp; rfl)); intro gb354 hg w78 hbox hb; have n0_ := Aside0.mk (Kd.V_below (Kd.V_elderB (by (with_reducible repeat (first | apply Kd.V_alloc | apply Kd.V_drewN | apply Kd.V_drew)); exact HO_324000.out) gb354 (Nat.le_of_eq hg.symm)) hb); have n1_ := Aside0.mk (Kd.V_below (Kd.V_elderB (by (with_reducible repeat (first | apply Kd.V_alloc | apply Kd.V_drewN | apply Kd.V_drew)); exact HO_336000.out) gb354 (Nat.le_of_eq hg.symm)) hb); have n2_ := Aside0.mk (Kd.R_below (by (with_reducible repeat (first | apply Kd.R_alloc | apply Kd.R_drewN | apply Kd.R_drew)); exact HO339.out) hb); have n3_ := Aside0.mk (Kd.V_below (Kd.V_elderB (by (with_reducible repeat (first | apply Kd.V_alloc | apply Kd.V_drewN | apply Kd.V_drew)); exact HO342.out) gb354 (Nat.le_of_eq hg.symm)) hb); have n4_ := Aside0.mk (Kd.R_below (by (with_reducible repeat (first | apply Kd.R_alloc | apply Kd.R_drewN | apply Kd.R_drew)); exact HO348.out) hb); have n5_ := Aside0.mk (Kd.V_below (Kd.V_elderB (by (with_reducible repeat (first | apply Kd.V_alloc | apply Kd.V_drewN | apply Kd.V_drew)); exact HO351.out) gb354 (Nat.le_of_eq hg.symm)) hb); have n6_ := Aside0.mk (blk_below (g := gb315) (o := .cells #[.slice A0 l0.length c0, .int .i64 a1] 28 (0, 0)) (by (with_reducible repeat (first | refine blk_drewN ?_ _ | refine blk_drew ?_ | refine blk_alloc ?_ _)); exact BK315.out) hb); have n7_ := Aside0.mk (blk_below (g := gb316) (o := .cells #[.slice A0 l0.length c0, .int .i64 a1] 29 (0, 0)) (by (with_reducible repeat (first | refine blk_drewN ?_ _ | refine blk_drew ?_ | refine blk_alloc ?_ _)); exact BK316.out) hb); have n8_ := Aside0.mk (blk_below (g := gb323) (o := .cells #[.slice Ao23 t318.length co23, .int .i64 t321] 28 (0, 0)) (by (with_reducible repeat (first | refine blk_drewN ?_ _ | refine blk_drew ?_ | refine blk_alloc ?_ _)); exact BK323.out) hb); have n9_ := Aside0.mk (blk_below (g := gb335) (o := .cells #[.slice Ao34 t330.length co34, .int .i64 t333] 29 (0, 0)) (by (with_reducible repeat (first | refine blk_drewN ?_ _ | refine blk_drew ?_ | refine blk_alloc ?_ _)); exact BK335.out) hb); have n10_ := Aside0.mk (blk_below (g := gb345) (o := .cells #[.slice Ao67 t340.length co67, .int .i64 t343] 28 (0, 0)) (by (with_reducible repeat (first | refine blk_drewN ?_ _ | refine blk_drew ?_ | refine blk_alloc ?_ _)); exact BK345.out) hb); have n11_ := Aside0.mk (below_step (by repeat (first | (with_reducible first | exact HB.out | apply below_alloc | apply pw_below_drewN | apply below_drew1 | refine below_set ?_ GE315.out | refine below_set ?_ GE316.out | refine below_set ?_ GE323.out | refine below_set ?_ GE335.out | refine below_set ?_ GE345.out) | exact HB.out)) hb); have n12_ := Aside0.mk (hbox); have n13_ := Aside0.mk ((by rw [hg]; exact (below_size (by repeat (first | (with_reducible first | exact HB.out | apply below_alloc | apply pw_below_drewN | apply below_drew1 | refine below_set ?_ GE315.out | refine below_set ?_ GE316.out | refine below_set ?_ GE323.out | refine below_set ?_ GE335.out | refine below_set ?_ GE345.out) | exact HB.out))) : w.heap.size ≤ gb354)); have n14_ := Aside0.mk ((by rw [hg]; exact (below_size (by repeat (first | (with_reducible first | exact HB.out | apply below_alloc | apply pw_below_drewN | apply below_drew1 | refine below_set ?_ GE315.out | refine below_set ?_ GE316.out | refine below_set ?_ GE323.out | refine below_set ?_ GE335.out | refine below_set ?_ GE345.out) | exact HB.out))) : w.heap.size ≤ gb354)); have n15_ := Aside0.mk ((by rw [hg]; exact Nat.ne_of_lt (blk_lt (g := gb315) (o := .cells #[.slice A0 l0.length c0, .int .i64 a1] 28 (0, 0)) (by (with_reducible repeat (first | refine blk_drewN ?_ _ | refine blk_drew ?_ | refine blk_alloc ?_ _)); exact BK315.out)) : gb315 ≠ gb354)); have n16_ := Aside0.mk ((by rw [hg]; exact Nat.ne_of_gt (blk_lt (g := gb315) (o := .cells #[.slice A0 l0.length c0, .int .i64 a1] 28 (0, 0)) (by (with_reducible repeat (first | refine blk_drewN ?_ _ | refine blk_drew ?_ | refine blk_alloc ?_ _)); exact BK315.out)) : gb354 ≠ gb315)); have n17_ := Aside0.mk ((by rw [hg]; exact Nat.ne_of_lt (blk_lt (g := gb316) (o := .cells #[.slice A0 l0.length c0, .int .i64 a1] 29 (0, 0)) (by (with_reducible repeat (first | refine blk_drewN ?_ _ | refine blk_drew ?_ | refine blk_alloc ?_ _)); exact BK316.out)) : gb316 ≠ gb354)); have n18_ := Aside0.mk ((by rw [hg]; exact Nat.ne_of_gt (blk_lt (g := gb316) (o := .cells #[.slice A0 l0.length c0, .int .i64 a1] 29 (0, 0)) (by (with_reducible repeat (first | refine blk_drewN ?_ _ | refine blk_drew ?_ | refine blk_alloc ?_ _)); exact BK316.out)) : gb354 ≠ gb316)); have n19_ := Aside0.mk ((by rw [hg]; exact Nat.ne_of_lt (blk_lt (g := gb323) (o := .cells #[.slice Ao23 t318.length co23, .int .i64 t321] 28 (0, 0)) (by (with_reducible repeat (first | refine blk_drewN ?_ _ | refine blk_drew ?_ | refine blk_alloc ?_ _)); exact BK323.out)) : gb323 ≠ gb354)); have n20_ := Aside0.mk ((by rw [hg]; exact Nat.ne_of_gt (blk_lt (g := gb323) (o := .cells #[.slice Ao23 t318.length co23, .int .i64 t321] 28 (0, 0)) (by (with_reducible repeat (first | refine blk_drewN ?_ _ | refine blk_drew ?_ | refine blk_alloc ?_ _)); exact BK323.out)) : gb354 ≠ gb323)); have n21_ := Aside0.mk ((by rw [hg]; exact Nat.ne_of_lt (blk_lt (g := gb335) (o := .cells #[.slice Ao34 t330.length co34, .int .i64 t333] 29 (0, 0)) (by (with_reducible repeat (first | refine blk_drewN ?_ _ | refine blk_drew ?_ | refine blk_alloc ?_ _)); exact BK335.out)) : gb335 ≠ gb354)); have n22_ := Aside0.mk ((by rw [hg]; exact Nat.ne_of_gt (blk_lt (g := gb335) (o := .cells #[.slice Ao34 t330.length co34, .int .i64 t333] 29 (0, 0)) (by (with_reducible repeat (first | refine blk_drewN ?_ _ | refine blk_drew ?_ | refine blk_alloc ?_ _)); exact BK335.out)) : gb354 ≠ gb335)); have n23_ := Aside0.mk ((by rw [hg]; exact Nat.ne_of_lt (blk_lt (g := gb345) (o := .cells #[.slice Ao67 t340.length co67, .int .i64 t343] 28 (0, 0)) (by (with_reducible repeat (first | refine blk_drewN ?_ _ | refine blk_drew ?_ | refine blk_alloc ?_ _)); exact BK345.out)) : gb345 ≠ gb354)); have n24_ := Aside0.mk ((by rw [hg]; exact Nat.ne_of_gt (blk_lt (g := gb345) (o := .cells #[.slice Ao67 t340.length co67, .int .i64 t343] 28 (0, 0)) (by (with_reducible repeat (first | refine blk_drewN ?_ _ | refine blk_drew ?_ | refine blk_alloc ?_ _)); exact BK345.out)) : gb354 ≠ gb345)); clear HO_324000; clear HO_336000; clear HO339; clear HO342; clear HO348; clear HO351; clear BK315; clear BK316; clear BK323; clear BK335; clear BK345; clear HB; have HO_324000 := n0_; have HO_336000 := n1_; have HO339 := n2_; have HO342 := n3_; have HO348 := n4_; have HO351 := n5_; have BK315 := n6_; have BK316 := n7_; have BK323 := n8_; have BK335 := n9_; have BK345 := n10_; have HB := n11_; have BK354 := n12_; have GW354 := n13_; have GE354 := n14_; have NB315_354 := n15_; have NB354_315 := n16_; have NB316_354 := n17_; have NB354_316 := n18_; have NB323_354 := n19_; have NB354_323 := n20_; have NB335_354 := n21_; have NB354_335 := n22_; have NB345_354 := n23_; have NB354_345 := n24_; clear n0_ n1_ n2_ n3_ n4_ n5_ n6_ n7_ n8_ n9_ n10_ n11_ n12_ n13_ n14_ n15_ n16_ n17_ n18_ n19_ n20_ n21_ n22_ n23_ n24_; clear hb hbox hg; obtain ⟨Ao79, co79, eo79⟩ := Kd.V_slice HO351.out; subst eo79; have hnb80 := NB354_315.out; have hnc80 := NB315_354.out; have hnb81 := NB354_316.out; have hnc81 := NB316_354.out; have hnb82 := NB354_323.out; have hnc82 := NB323_354.out; have hnb83 := NB354_335.out; have hnc83 := NB335_354.out; have hnb84 := NB354_345.out; have hnc84 := NB345_354.out; have hcz85_0 : w78.cell? ⟨gb354, 0, none⟩ = some (.slice none 0 0) := (blk_cell BK354.out 0).trans rfl; have hcz85_1 : w78.cell? ⟨gb354, 1, none⟩ = some (.int .i64 0) := (blk_cell BK354.out 1).trans rfl; have hfz85_0 := blk_frozen BK354.out 0; have hfz85_1 := blk_frozen BK354.out 1))
       (try simp only [Act.put, List.setIfInBounds_toArray, List.set_cons_zero, List.set_cons_succ])
       go_cut [91] (fun v91 wc => ∃ (kq : Nat) (x91_59 : Bool), v91 = .bool x91_59 ∧ Aside0 (samphirelaw07_DrawTells.j2 kq l0 a1 t337 t344 t346 t353 0 x91_59 l0 a1 t340 t343 t349 t352 = some r) ∧ Aside0 (kq ≤ kj12) ∧ Aside0 (Kd.R (Kd.int .u32) 48 wc w.heap.size (fun k_ => some k_ ≠ (v347 : Value).ownBlock) v338 t337) ∧ Aside0 (Kd.R (Kd.int .u32) 48 wc w.heap.size (fun k_ => some k_ ≠ (v338 : Value).ownBlock) v347 t346) ∧ Aside0 (Kd.V (Kd.int .u64) 23 wc w.heap.size (fun k_ => some k_ ≠ (v338 : Value).ownBlock ∧ some k_ ≠ (v347 : Value).ownBlock ∧ k_ ≠ gb315 ∧ k_ ≠ gb316 ∧ k_ ≠ gb323 ∧ k_ ≠ gb335 ∧ k_ ≠ gb345 ∧ k_ ≠ gb354) (.slice Ao23 t318.length co23) t318) ∧ Aside0 (Kd.V (Kd.int .u64) 23 wc w.heap.size (fun k_ => some k_ ≠ (v338 : Value).ownBlock ∧ some k_ ≠ (v347 : Value).ownBlock ∧ k_ ≠ gb315 ∧ k_ ≠ gb316 ∧ k_ ≠ gb323 ∧ k_ ≠ gb335 ∧ k_ ≠ gb345 ∧ k_ ≠ gb354) (.slice Ao34 t330.length co34) t330) ∧ Aside0 (Kd.V (Kd.int .u64) 23 wc w.heap.size (fun k_ => some k_ ≠ (v338 : Value).ownBlock ∧ some k_ ≠ (v347 : Value).ownBlock ∧ k_ ≠ gb315 ∧ k_ ≠ gb316 ∧ k_ ≠ gb323 ∧ k_ ≠ gb335 ∧ k_ ≠ gb345 ∧ k_ ≠ gb354) (.slice Ao67 t340.length co67) t340) ∧ Aside0 (Kd.V (Kd.int .u64) 23 wc w.heap.size (fun k_ => some k_ ≠ (v338 : Value).ownBlock ∧ some k_ ≠ (v347 : Value).ownBlock ∧ k_ ≠ gb315 ∧ k_ ≠ gb316 ∧ k_ ≠ gb323 ∧ k_ ≠ gb335 ∧ k_ ≠ gb345 ∧ k_ ≠ gb354) (.slice Ao79 t349.length co79) t349) ∧ Aside0 (wc.heap[gb315]? = some (.cells #[(.slice A0 l0.length c0), .int .i64 a1] 28 (0, 0))) ∧ Aside0 (wc.heap[gb316]? = some (.cells #[(.slice A0 l0.length c0), .int .i64 a1] 29 (0, 0))) ∧ Aside0 (wc.heap[gb323]? = some (.cells #[(.slice Ao23 t318.length co23), .int .i64 t321] 28 (0, 0))) ∧ Aside0 (wc.heap[gb335]? = some (.cells #[(.slice Ao34 t330.length co34), .int .i64 t333] 29 (0, 0))) ∧ Aside0 (wc.heap[gb345]? = some (.cells #[(.slice Ao67 t340.length co67), .int .i64 t343] 28 (0, 0))) ∧ Aside0 (wc.heap[gb354]? = some (.cells #[(.slice Ao79 t349.length co79), .int .i64 t352] 29 (0, 0))) ∧ Aside0 (Below w.heap.size w wc))
       case first =>
        have H := HC60.out
        clear HC60
        by_cases c86 : a1 ≥ 0
        ·
         rw [if_pos c86] at H
         have c86b0 : decide (0 ≤ a1) = true := decide_eq_true c86
         clear c86
         (first | rw [c86b0] | (simp only [i64_w, i32_w]; rw [c86b0]) | skip)
         have H' := Aside0.mk H
         clear H
         go_wp2
         go_meet
         case rel => exact ⟨_, (decide (a1 ≤ (l0.length : Int))), (by first | rfl | (simp; done) | (simp [*]; done)), H', ⟨by have := HJ4.out; have := HJ12.out; first | omega | exact Nat.le_refl _⟩, ⟨by (with_reducible repeat (first | apply Kd.R_alloc | apply Kd.R_drewN | apply Kd.R_drew)); exact Kd.R_mono (Kd.R_far (p := ⟨gb354, 1, none⟩) (Kd.R_far (p := ⟨gb354, 0, none⟩) (Kd.R_types HO339.out BK354.out (by decide)) (fun _ hk => hk.2) (.slice Ao79 t349.length co79)) (fun _ hk => hk.2) (.int .i64 t352)) (fun _ hk => hk.1.2)⟩, ⟨by (with_reducible repeat (first | apply Kd.R_alloc | apply Kd.R_drewN | apply Kd.R_drew)); exact Kd.R_mono (Kd.R_far (p := ⟨gb354, 1, none⟩) (Kd.R_far (p := ⟨gb354, 0, none⟩) (Kd.R_types HO348.out BK354.out (by decide)) (fun _ hk => hk.2) (.slice Ao79 t349.length co79)) (fun _ hk => hk.2) (.int .i64 t352)) (fun _ hk => hk.1.2)⟩, ⟨by (with_reducible repeat (first | apply Kd.V_alloc | apply Kd.V_drewN | apply Kd.V_drew)); exact Kd.V_mono (Kd.V_far (p := ⟨gb354, 1, none⟩) (Kd.V_far (p := ⟨gb354, 0, none⟩) (Kd.V_mono HO_324000.out (fun k_ hk => (⟨hk, hk.2⟩ : _ ∧ k_ ≠ gb354))) (fun _ hk => hk.2) (.slice Ao79 t349.length co79)) (fun _ hk => hk.2) (.int .i64 t352)) (fun _ hk => ⟨hk.1.1.1.1, ⟨hk.1.1.2, ⟨hk.1.1.1.2.1, ⟨hk.1.1.1.2.2.1, ⟨hk.1.1.1.2.2.2.1, ⟨hk.1.1.1.2.2.2.2.1, ⟨hk.1.1.1.2.2.2.2.2, hk.1.2⟩⟩⟩⟩⟩⟩⟩)⟩, ⟨by (with_reducible repeat (first | apply Kd.V_alloc | apply Kd.V_drewN | apply Kd.V_drew)); exact Kd.V_mono (Kd.V_far (p := ⟨gb354, 1, none⟩) (Kd.V_far (p := ⟨gb354, 0, none⟩) (Kd.V_mono HO_336000.out (fun k_ hk => (⟨hk, hk.2⟩ : _ ∧ k_ ≠ gb354))) (fun _ hk => hk.2) (.slice Ao79 t349.length co79)) (fun _ hk => hk.2) (.int .i64 t352)) (fun _ hk => ⟨hk.1.1.1.1, ⟨hk.1.1.2, ⟨hk.1.1.1.2.1, ⟨hk.1.1.1.2.2.1, ⟨hk.1.1.1.2.2.2.1, ⟨hk.1.1.1.2.2.2.2.1, ⟨hk.1.1.1.2.2.2.2.2, hk.1.2⟩⟩⟩⟩⟩⟩⟩)⟩, ⟨by (with_reducible repeat (first | apply Kd.V_alloc | apply Kd.V_drewN | apply Kd.V_drew)); exact Kd.V_mono (Kd.V_far (p := ⟨gb354, 1, none⟩) (Kd.V_far (p := ⟨gb354, 0, none⟩) (Kd.V_mono HO342.out (fun k_ hk => (⟨hk, hk.2⟩ : _ ∧ k_ ≠ gb354))) (fun _ hk => hk.2) (.slice Ao79 t349.length co79)) (fun _ hk => hk.2) (.int .i64 t352)) (fun _ hk => ⟨hk.1.1.1.1, ⟨hk.1.1.2, ⟨hk.1.1.1.2.1, ⟨hk.1.1.1.2.2.1, ⟨hk.1.1.1.2.2.2.1, ⟨hk.1.1.1.2.2.2.2.1, ⟨hk.1.1.1.2.2.2.2.2, hk.1.2⟩⟩⟩⟩⟩⟩⟩)⟩, ⟨by (with_reducible repeat (first | apply Kd.V_alloc | apply Kd.V_drewN | apply Kd.V_drew)); exact Kd.V_mono (Kd.V_far (p := ⟨gb354, 1, none⟩) (Kd.V_far (p := ⟨gb354, 0, none⟩) (Kd.V_mono HO351.out (fun k_ hk => (⟨hk, hk.2⟩ : _ ∧ k_ ≠ gb354))) (fun _ hk => hk.2) (.slice Ao79 t349.length co79)) (fun _ hk => hk.2) (.int .i64 t352)) (fun _ hk => ⟨hk.1.1.2.1, ⟨hk.1.1.1, ⟨hk.1.1.2.2.1, ⟨hk.1.1.2.2.2.1, ⟨hk.1.1.2.2.2.2.1, ⟨hk.1.1.2.2.2.2.2.1, ⟨hk.1.1.2.2.2.2.2.2, hk.1.2⟩⟩⟩⟩⟩⟩⟩)⟩, ⟨by (with_reducible repeat (first | refine blk_drewN ?_ _ | refine blk_drew ?_ | refine blk_alloc ?_ _)); refine blk_far ?_ NB315_354.out _; (with_reducible repeat (first | refine blk_drewN ?_ _ | refine blk_drew ?_ | refine blk_alloc ?_ _)); refine blk_far ?_ NB315_354.out _; (with_reducible repeat (first | refine blk_drewN ?_ _ | refine blk_drew ?_ | refine blk_alloc ?_ _)); exact BK315.out⟩, ⟨by (with_reducible repeat (first | refine blk_drewN ?_ _ | refine blk_drew ?_ | refine blk_alloc ?_ _)); refine blk_far ?_ NB316_354.out _; (with_reducible repeat (first | refine blk_drewN ?_ _ | refine blk_drew ?_ | refine blk_alloc ?_ _)); refine blk_far ?_ NB316_354.out _; (with_reducible repeat (first | refine blk_drewN ?_ _ | refine blk_drew ?_ | refine blk_alloc ?_ _)); exact BK316.out⟩, ⟨by (with_reducible repeat (first | refine blk_drewN ?_ _ | refine blk_drew ?_ | refine blk_alloc ?_ _)); refine blk_far ?_ NB323_354.out _; (with_reducible repeat (first | refine blk_drewN ?_ _ | refine blk_drew ?_ | refine blk_alloc ?_ _)); refine blk_far ?_ NB323_354.out _; (with_reducible repeat (first | refine blk_drewN ?_ _ | refine blk_drew ?_ | refine blk_alloc ?_ _)); exact BK323.out⟩, ⟨by (with_reducible repeat (first | refine blk_drewN ?_ _ | refine blk_drew ?_ | refine blk_alloc ?_ _)); refine blk_far ?_ NB335_354.out _; (with_reducible repeat (first | refine blk_drewN ?_ _ | refine blk_drew ?_ | refine blk_alloc ?_ _)); refine blk_far ?_ NB335_354.out _; (with_reducible repeat (first | refine blk_drewN ?_ _ | refine blk_drew ?_ | refine blk_alloc ?_ _)); exact BK335.out⟩, ⟨by (with_reducible repeat (first | refine blk_drewN ?_ _ | refine blk_drew ?_ | refine blk_alloc ?_ _)); refine blk_far ?_ NB345_354.out _; (with_reducible repeat (first | refine blk_drewN ?_ _ | refine blk_drew ?_ | refine blk_alloc ?_ _)); refine blk_far ?_ NB345_354.out _; (with_reducible repeat (first | refine blk_drewN ?_ _ | refine blk_drew ?_ | refine blk_alloc ?_ _)); exact BK345.out⟩, ⟨by (with_reducible repeat (first | refine blk_drewN ?_ _ | refine blk_drew ?_ | refine blk_alloc ?_ _)); refine blk_put (cs := #[.slice Ao79 t349.length co79, .int .i64 0]) ?_ 1 _ rfl; (with_reducible repeat (first | refine blk_drewN ?_ _ | refine blk_drew ?_ | refine blk_alloc ?_ _)); refine blk_put (cs := #[.slice none 0 0, .int .i64 0]) ?_ 0 _ rfl; (with_reducible repeat (first | refine blk_drewN ?_ _ | refine blk_drew ?_ | refine blk_alloc ?_ _)); exact BK354.out⟩, ⟨by repeat (first | (with_reducible first | exact HB.out | apply below_alloc | apply pw_below_drewN | apply below_drew1 | refine below_set ?_ GE315.out | refine below_set ?_ GE316.out | refine below_set ?_ GE323.out | refine below_set ?_ GE335.out | refine below_set ?_ GE345.out | refine below_set ?_ GE354.out) | exact HB.out)⟩⟩
        ·
         rw [if_neg c86] at H
         have c86b0 : decide (0 ≤ a1) = false := decide_eq_false c86
         clear c86
         (first | rw [c86b0] | (simp only [i64_w, i32_w]; rw [c86b0]) | skip)
         have H' := Aside0.mk H
         clear H
         go_wp2
         go_meet
         case rel => exact ⟨_, (false), (by first | rfl | (simp; done) | (simp [*]; done)), H', ⟨by have := HJ4.out; have := HJ12.out; first | omega | exact Nat.le_refl _⟩, ⟨by (with_reducible repeat (first | apply Kd.R_alloc | apply Kd.R_drewN | apply Kd.R_drew)); exact Kd.R_mono (Kd.R_far (p := ⟨gb354, 1, none⟩) (Kd.R_far (p := ⟨gb354, 0, none⟩) (Kd.R_types HO339.out BK354.out (by decide)) (fun _ hk => hk.2) (.slice Ao79 t349.length co79)) (fun _ hk => hk.2) (.int .i64 t352)) (fun _ hk => hk.1.2)⟩, ⟨by (with_reducible repeat (first | apply Kd.R_alloc | apply Kd.R_drewN | apply Kd.R_drew)); exact Kd.R_mono (Kd.R_far (p := ⟨gb354, 1, none⟩) (Kd.R_far (p := ⟨gb354, 0, none⟩) (Kd.R_types HO348.out BK354.out (by decide)) (fun _ hk => hk.2) (.slice Ao79 t349.length co79)) (fun _ hk => hk.2) (.int .i64 t352)) (fun _ hk => hk.1.2)⟩, ⟨by (with_reducible repeat (first | apply Kd.V_alloc | apply Kd.V_drewN | apply Kd.V_drew)); exact Kd.V_mono (Kd.V_far (p := ⟨gb354, 1, none⟩) (Kd.V_far (p := ⟨gb354, 0, none⟩) (Kd.V_mono HO_324000.out (fun k_ hk => (⟨hk, hk.2⟩ : _ ∧ k_ ≠ gb354))) (fun _ hk => hk.2) (.slice Ao79 t349.length co79)) (fun _ hk => hk.2) (.int .i64 t352)) (fun _ hk => ⟨hk.1.1.1.1, ⟨hk.1.1.2, ⟨hk.1.1.1.2.1, ⟨hk.1.1.1.2.2.1, ⟨hk.1.1.1.2.2.2.1, ⟨hk.1.1.1.2.2.2.2.1, ⟨hk.1.1.1.2.2.2.2.2, hk.1.2⟩⟩⟩⟩⟩⟩⟩)⟩, ⟨by (with_reducible repeat (first | apply Kd.V_alloc | apply Kd.V_drewN | apply Kd.V_drew)); exact Kd.V_mono (Kd.V_far (p := ⟨gb354, 1, none⟩) (Kd.V_far (p := ⟨gb354, 0, none⟩) (Kd.V_mono HO_336000.out (fun k_ hk => (⟨hk, hk.2⟩ : _ ∧ k_ ≠ gb354))) (fun _ hk => hk.2) (.slice Ao79 t349.length co79)) (fun _ hk => hk.2) (.int .i64 t352)) (fun _ hk => ⟨hk.1.1.1.1, ⟨hk.1.1.2, ⟨hk.1.1.1.2.1, ⟨hk.1.1.1.2.2.1, ⟨hk.1.1.1.2.2.2.1, ⟨hk.1.1.1.2.2.2.2.1, ⟨hk.1.1.1.2.2.2.2.2, hk.1.2⟩⟩⟩⟩⟩⟩⟩)⟩, ⟨by (with_reducible repeat (first | apply Kd.V_alloc | apply Kd.V_drewN | apply Kd.V_drew)); exact Kd.V_mono (Kd.V_far (p := ⟨gb354, 1, none⟩) (Kd.V_far (p := ⟨gb354, 0, none⟩) (Kd.V_mono HO342.out (fun k_ hk => (⟨hk, hk.2⟩ : _ ∧ k_ ≠ gb354))) (fun _ hk => hk.2) (.slice Ao79 t349.length co79)) (fun _ hk => hk.2) (.int .i64 t352)) (fun _ hk => ⟨hk.1.1.1.1, ⟨hk.1.1.2, ⟨hk.1.1.1.2.1, ⟨hk.1.1.1.2.2.1, ⟨hk.1.1.1.2.2.2.1, ⟨hk.1.1.1.2.2.2.2.1, ⟨hk.1.1.1.2.2.2.2.2, hk.1.2⟩⟩⟩⟩⟩⟩⟩)⟩, ⟨by (with_reducible repeat (first | apply Kd.V_alloc | apply Kd.V_drewN | apply Kd.V_drew)); exact Kd.V_mono (Kd.V_far (p := ⟨gb354, 1, none⟩) (Kd.V_far (p := ⟨gb354, 0, none⟩) (Kd.V_mono HO351.out (fun k_ hk => (⟨hk, hk.2⟩ : _ ∧ k_ ≠ gb354))) (fun _ hk => hk.2) (.slice Ao79 t349.length co79)) (fun _ hk => hk.2) (.int .i64 t352)) (fun _ hk => ⟨hk.1.1.2.1, ⟨hk.1.1.1, ⟨hk.1.1.2.2.1, ⟨hk.1.1.2.2.2.1, ⟨hk.1.1.2.2.2.2.1, ⟨hk.1.1.2.2.2.2.2.1, ⟨hk.1.1.2.2.2.2.2.2, hk.1.2⟩⟩⟩⟩⟩⟩⟩)⟩, ⟨by (with_reducible repeat (first | refine blk_drewN ?_ _ | refine blk_drew ?_ | refine blk_alloc ?_ _)); refine blk_far ?_ NB315_354.out _; (with_reducible repeat (first | refine blk_drewN ?_ _ | refine blk_drew ?_ | refine blk_alloc ?_ _)); refine blk_far ?_ NB315_354.out _; (with_reducible repeat (first | refine blk_drewN ?_ _ | refine blk_drew ?_ | refine blk_alloc ?_ _)); exact BK315.out⟩, ⟨by (with_reducible repeat (first | refine blk_drewN ?_ _ | refine blk_drew ?_ | refine blk_alloc ?_ _)); refine blk_far ?_ NB316_354.out _; (with_reducible repeat (first | refine blk_drewN ?_ _ | refine blk_drew ?_ | refine blk_alloc ?_ _)); refine blk_far ?_ NB316_354.out _; (with_reducible repeat (first | refine blk_drewN ?_ _ | refine blk_drew ?_ | refine blk_alloc ?_ _)); exact BK316.out⟩, ⟨by (with_reducible repeat (first | refine blk_drewN ?_ _ | refine blk_drew ?_ | refine blk_alloc ?_ _)); refine blk_far ?_ NB323_354.out _; (with_reducible repeat (first | refine blk_drewN ?_ _ | refine blk_drew ?_ | refine blk_alloc ?_ _)); refine blk_far ?_ NB323_354.out _; (with_reducible repeat (first | refine blk_drewN ?_ _ | refine blk_drew ?_ | refine blk_alloc ?_ _)); exact BK323.out⟩, ⟨by (with_reducible repeat (first | refine blk_drewN ?_ _ | refine blk_drew ?_ | refine blk_alloc ?_ _)); refine blk_far ?_ NB335_354.out _; (with_reducible repeat (first | refine blk_drewN ?_ _ | refine blk_drew ?_ | refine blk_alloc ?_ _)); refine blk_far ?_ NB335_354.out _; (with_reducible repeat (first | refine blk_drewN ?_ _ | refine blk_drew ?_ | refine blk_alloc ?_ _)); exact BK335.out⟩, ⟨by (with_reducible repeat (first | refine blk_drewN ?_ _ | refine blk_drew ?_ | refine blk_alloc ?_ _)); refine blk_far ?_ NB345_354.out _; (with_reducible repeat (first | refine blk_drewN ?_ _ | refine blk_drew ?_ | refine blk_alloc ?_ _)); refine blk_far ?_ NB345_354.out _; (with_reducible repeat (first | refine blk_drewN ?_ _ | refine blk_drew ?_ | refine blk_alloc ?_ _)); exact BK345.out⟩, ⟨by (with_reducible repeat (first | refine blk_drewN ?_ _ | refine blk_drew ?_ | refine blk_alloc ?_ _)); refine blk_put (cs := #[.slice Ao79 t349.length co79, .int .i64 0]) ?_ 1 _ rfl; (with_reducible repeat (first | refine blk_drewN ?_ _ | refine blk_drew ?_ | refine blk_alloc ?_ _)); refine blk_put (cs := #[.slice none 0 0, .int .i64 0]) ?_ 0 _ rfl; (with_reducible repeat (first | refine blk_drewN ?_ _ | refine blk_drew ?_ | refine blk_alloc ?_ _)); exact BK354.out⟩, ⟨by repeat (first | (with_reducible first | exact HB.out | apply below_alloc | apply pw_below_drewN | apply below_drew1 | refine below_set ?_ GE315.out | refine below_set ?_ GE316.out | refine below_set ?_ GE323.out | refine below_set ?_ GE335.out | refine below_set ?_ GE345.out | refine below_set ?_ GE354.out) | exact HB.out)⟩⟩
       case rest =>
        clear HC60
        try clear c1
        try clear p2
        try clear c3
        try clear c4
        try clear c5
        try clear c6
        try clear c7
        try clear c8
        try clear c11
        try clear c12
        try clear c13
        try clear c14
        try clear c38
        try clear c38b0
        try clear c38b1
        try clear c39
        try clear c39b0
        try clear c39b1
        try clear c41
        try clear c42
        try clear c43
        try clear c45
        try clear c46
        try clear c49
        try clear c50
        try clear c51
        try clear c53
        try clear c54
        try clear c57
        try clear c61
        try clear c62
        try clear c63
        try clear c68
        try clear c69
        try clear c70
        try clear c71
        try clear c74
        try clear c75
        try clear c80
        try clear c81
        try clear c82
        try clear c83
        try clear c84
        try clear c86
        try clear c86b0
        try clear hcz44_0
        try clear hcz44_1
        try clear hcz47_0
        try clear hcz47_1
        try clear hcz52_0
        try clear hcz52_1
        try clear hcz55_0
        try clear hcz55_1
        try clear hcz64_0
        try clear hcz64_1
        try clear hcz72_0
        try clear hcz72_1
        try clear hcz76_0
        try clear hcz76_1
        try clear hcz85_0
        try clear hcz85_1
        try clear hfz44_0
        try clear hfz44_1
        try clear hfz47_0
        try clear hfz47_1
        try clear hfz52_0
        try clear hfz52_1
        try clear hfz55_0
        try clear hfz55_1
        try clear hfz64_0
        try clear hfz64_1
        try clear hfz72_0
        try clear hfz72_1
        try clear hfz76_0
        try clear hfz76_1
        try clear hfz85_0
        try clear hfz85_1
        try clear p2
        obtain ⟨kq, x91_59, rfl, HA, HJ59, HO_17, HO_20, HO_324000, HO_336000, HO_346000, HO_355000, BK315, BK316, BK323, BK335, BK345, BK354, HB⟩ := hcut
        cases kq with
        | zero => exact absurd HA.out (by simp [samphirelaw07_DrawTells.j2])
        | succ kj59 =>
         have H := HA.out
         clear HA
         simp only [samphirelaw07_DrawTells.j2] at H
         by_cases c87 : x91_59 = true
         ·
          subst c87
          have H1 : ((samphireref02_Same.f kj59 t337 t346).bind fun t355 => (if t355 = true then (if t343 = t352 then (if t344 = t353 then ((draw_Left.f l0 a1).bind fun t356 => (if t356 = (wrap64 ((l0.length : Int) - a1)) then ((samphirelaw07_awake.f kj59).bind fun t357 => (some t357)) else (none))) else (none)) else (none)) else (none))) = some r := by rw [if_pos rfl] at H; exact H
          clear H
          have H := H1
          clear H1
          replace H := Option.bind_eq_some_iff.mp H
          obtain ⟨t355, A880, H⟩ := H
          replace H : (if t355 = true then (if t343 = t352 then (if t344 = t353 then ((draw_Left.f l0 a1).bind fun t356 => (if t356 = (wrap64 ((l0.length : Int) - a1)) then ((samphirelaw07_awake.f kj59).bind fun t357 => (some t357)) else (none))) else (none)) else (none)) else (none)) = some r := H
          have A88 := Aside0.mk A880
          clear A880
          by_cases c89 : t355 = true
          ·
           subst c89
           have H1 : (if t343 = t352 then (if t344 = t353 then ((draw_Left.f l0 a1).bind fun t356 => (if t356 = (wrap64 ((l0.length : Int) - a1)) then ((samphirelaw07_awake.f kj59).bind fun t357 => (some t357)) else (none))) else (none)) else (none)) = some r := by rw [if_pos rfl] at H; exact H
           clear H
           have H := H1
           clear H1
           by_cases c90 : t343 = t352
           ·
            rw [if_pos c90] at H
            have c90b0 : (t343 == t352) = true := beq_iff_eq.mpr c90
            have c90b1 : (t343 != t352) = false := bne_eq_false_iff_eq.mpr c90
            clear c90
            by_cases c91 : t344 = t353
            ·
             rw [if_pos c91] at H
             have c91b0 : (t344 == t353) = true := beq_iff_eq.mpr c91
             have c91b1 : (t344 != t353) = false := bne_eq_false_iff_eq.mpr c91
             clear c91
             replace H := Option.bind_eq_some_iff.mp H
             obtain ⟨t356, A920, H⟩ := H
             replace H : (if t356 = (wrap64 ((l0.length : Int) - a1)) then ((samphirelaw07_awake.f kj59).bind fun t357 => (some t357)) else (none)) = some r := H
             have A92 := Aside0.mk A920
             clear A920
             by_cases c93 : t356 = (wrap64 ((l0.length : Int) - a1))
             ·
              rw [if_pos c93] at H
              have c93b0 : (t356 == (wrap64 ((l0.length : Int) - a1))) = true := beq_iff_eq.mpr c93
              have c93b1 : (t356 != (wrap64 ((l0.length : Int) - a1))) = false := bne_eq_false_iff_eq.mpr c93
              clear c93
              replace H := Option.bind_eq_some_iff.mp H
              obtain ⟨t357, A940, H⟩ := H
              replace H : (some t357) = some r := H
              have A94 := Aside0.mk A940
              clear A940
              obtain rfl := Option.some.inj H
              obtain ⟨Ao95, co95, eo95⟩ := Kd.R_slice HO_17.out
              subst eo95
              obtain ⟨Ao96, co96, eo96⟩ := Kd.R_slice HO_20.out
              subst eo96
              go_wp2_with (first | ((with_reducible refine gate_callee (f := 15) rfl ?_); refine goesL_ (some 98) rfl rfl Try.func15 (by kernel_rfl) rfl #[.slice Ao95 t337.length co95, .slice Ao96 t346.length co96] rfl (by (try simp only [List.map_toArray, List.map_cons, List.map_nil]); first | done | rfl | (simp only [List.length_drop, List.length_take]; rfl)) ?_; (with_reducible refine (samphireref02_Same.calls kj59 _ _ t337 _ _ t346 true _ ?side1 ?side2 ?side3 ?side4 A88.out).mono ?_); (case side1 => repeat (first | exact (Kd.R_reads' HO_17.out).2.2 | (with_reducible refine Kd.C_alloc ?_ _) | (with_reducible refine Kd.C_drewN ?_ _) | (with_reducible refine Kd.C_drew ?_))); (case side2 => exact (Kd.R_reads' HO_17.out).2.1); (case side3 => repeat (first | exact (Kd.R_reads' HO_20.out).2.2 | (with_reducible refine Kd.C_alloc ?_ _) | (with_reducible refine Kd.C_drewN ?_ _) | (with_reducible refine Kd.C_drew ?_))); (case side4 => exact (Kd.R_reads' HO_20.out).2.1); rintro e w' ⟨rfl, ⟨nd, rfl⟩⟩; refine ⟨_, rfl, ?_⟩; have hnb97 := NB345_315.out; have hnc97 := NB315_345.out; have hnb98 := NB345_316.out; have hnc98 := NB316_345.out; have hnb99 := NB345_323.out; have hnc99 := NB323_345.out; have hnb100 := NB345_335.out; have hnc100 := NB335_345.out; have hnb101 := NB345_354.out; have hnc101 := NB354_345.out; have hcz102_0 : wc.cell? ⟨gb345, 0, none⟩ = some (.slice Ao67 t340.length co67) := (blk_cell BK345.out 0).trans rfl; have hcz102_1 : wc.cell? ⟨gb345, 1, none⟩ = some (.int .i64 t343) := (blk_cell BK345.out 1).trans rfl; have hfz102_0 := blk_frozen BK345.out 0; have hfz102_1 := blk_frozen BK345.out 1; have hnb103 := NB354_315.out; have hnc103 := NB315_354.out; have hnb104 := NB354_316.out; have hnc104 := NB316_354.out; have hnb105 := NB354_323.out; have hnc105 := NB323_354.out; have hnb106 := NB354_335.out; have hnc106 := NB335_354.out; have hcz107_0 : wc.cell? ⟨gb354, 0, none⟩ = some (.slice Ao79 t349.length co79) := (blk_cell BK354.out 0).trans rfl; have hcz107_1 : wc.cell? ⟨gb354, 1, none⟩ = some (.int .i64 t352) := (blk_cell BK354.out 1).trans rfl; have hfz107_0 := blk_frozen BK354.out 0; have hfz107_1 := blk_frozen BK354.out 1; have hnb108 := NB315_316.out; have hnc108 := NB316_315.out; have hnb109 := NB315_323.out; have hnc109 := NB323_315.out; have hnb110 := NB315_335.out; have hnc110 := NB335_315.out; have hcz111_0 : wc.cell? ⟨gb315, 0, none⟩ = some (.slice A0 l0.length c0) := (blk_cell BK315.out 0).trans rfl; have hcz111_1 : wc.cell? ⟨gb315, 1, none⟩ = some (.int .i64 a1) := (blk_cell BK315.out 1).trans rfl; have hfz111_0 := blk_frozen BK315.out 0; have hfz111_1 := blk_frozen BK315.out 1) | (go_at_call 16; (with_reducible refine (draw_Left.calls _ _ l0 a1 t356 _ ?side1 ?side2 A92.out).mono ?_); (case side1 => repeat (first | exact (Kd.C_below HR0.out (by repeat (first | (with_reducible first | exact HB.out | apply below_alloc | apply pw_below_drewN | apply below_drew1 | refine below_set ?_ GE315.out | refine below_set ?_ GE316.out | refine below_set ?_ GE323.out | refine below_set ?_ GE335.out | refine below_set ?_ GE345.out | refine below_set ?_ GE354.out) | exact HB.out))) | (with_reducible refine Kd.C_alloc ?_ _) | (with_reducible refine Kd.C_drewN ?_ _) | (with_reducible refine Kd.C_drew ?_))); (case side2 => exact HC0.out); rintro e w112 ⟨rfl, hb⟩; have n0_ := Aside0.mk (Kd.R_below (by (with_reducible repeat (first | apply Kd.R_alloc | apply Kd.R_drewN | apply Kd.R_drew)); exact HO_17.out) hb); have n1_ := Aside0.mk (Kd.R_below (by (with_reducible repeat (first | apply Kd.R_alloc | apply Kd.R_drewN | apply Kd.R_drew)); exact HO_20.out) hb); have n2_ := Aside0.mk (Kd.V_below (by (with_reducible repeat (first | apply Kd.V_alloc | apply Kd.V_drewN | apply Kd.V_drew)); exact HO_324000.out) hb); have n3_ := Aside0.mk (Kd.V_below (by (with_reducible repeat (first | apply Kd.V_alloc | apply Kd.V_drewN | apply Kd.V_drew)); exact HO_336000.out) hb); have n4_ := Aside0.mk (Kd.V_below (by (with_reducible repeat (first | apply Kd.V_alloc | apply Kd.V_drewN | apply Kd.V_drew)); exact HO_346000.out) hb); have n5_ := Aside0.mk (Kd.V_below (by (with_reducible repeat (first | apply Kd.V_alloc | apply Kd.V_drewN | apply Kd.V_drew)); exact HO_355000.out) hb); have n6_ := Aside0.mk (blk_below (g := gb315) (o := .cells #[.slice A0 l0.length c0, .int .i64 a1] 28 (0, 0)) (by (with_reducible repeat (first | refine blk_drewN ?_ _ | refine blk_drew ?_ | refine blk_alloc ?_ _)); exact BK315.out) hb); have n7_ := Aside0.mk (blk_below (g := gb316) (o := .cells #[.slice A0 l0.length c0, .int .i64 a1] 29 (0, 0)) (by (with_reducible repeat (first | refine blk_drewN ?_ _ | refine blk_drew ?_ | refine blk_alloc ?_ _)); exact BK316.out) hb); have n8_ := Aside0.mk (blk_below (g := gb323) (o := .cells #[.slice Ao23 t318.length co23, .int .i64 t321] 28 (0, 0)) (by (with_reducible repeat (first | refine blk_drewN ?_ _ | refine blk_drew ?_ | refine blk_alloc ?_ _)); exact BK323.out) hb); have n9_ := Aside0.mk (blk_below (g := gb335) (o := .cells #[.slice Ao34 t330.length co34, .int .i64 t333] 29 (0, 0)) (by (with_reducible repeat (first | refine blk_drewN ?_ _ | refine blk_drew ?_ | refine blk_alloc ?_ _)); exact BK335.out) hb); have n10_ := Aside0.mk (blk_below (g := gb345) (o := .cells #[.slice Ao67 t340.length co67, .int .i64 t343] 28 (0, 0)) (by (with_reducible repeat (first | refine blk_drewN ?_ _ | refine blk_drew ?_ | refine blk_alloc ?_ _)); exact BK345.out) hb); have n11_ := Aside0.mk (blk_below (g := gb354) (o := .cells #[.slice Ao79 t349.length co79, .int .i64 t352] 29 (0, 0)) (by (with_reducible repeat (first | refine blk_drewN ?_ _ | refine blk_drew ?_ | refine blk_alloc ?_ _)); exact BK354.out) hb); have n12_ := Aside0.mk (below_step (by repeat (first | (with_reducible first | exact HB.out | apply below_alloc | apply pw_below_drewN | apply below_drew1 | refine below_set ?_ GE315.out | refine below_set ?_ GE316.out | refine below_set ?_ GE323.out | refine below_set ?_ GE335.out | refine below_set ?_ GE345.out | refine below_set ?_ GE354.out) | exact HB.out)) hb); clear HO_17; clear HO_20; clear HO_324000; clear HO_336000; clear HO_346000; clear HO_355000; clear BK315; clear BK316; clear BK323; clear BK335; clear BK345; clear BK354; clear HB; have HO_17 := n0_; have HO_20 := n1_; have HO_324000 := n2_; have HO_336000 := n3_; have HO_346000 := n4_; have HO_355000 := n5_; have BK315 := n6_; have BK316 := n7_; have BK323 := n8_; have BK335 := n9_; have BK345 := n10_; have BK354 := n11_; have HB := n12_; clear n0_ n1_ n2_ n3_ n4_ n5_ n6_ n7_ n8_ n9_ n10_ n11_ n12_; (try clear hb); (try clear hb2); (try clear hk); (try clear hi)) | (go_at_call 9; (with_reducible refine (samphirelaw07_awake.calls kj59  t357 _ A94.out).mono ?_); rintro e w113 ⟨rfl, hb⟩; have n0_ := Aside0.mk (Kd.R_below (by (with_reducible repeat (first | apply Kd.R_alloc | apply Kd.R_drewN | apply Kd.R_drew)); exact HO_17.out) hb); have n1_ := Aside0.mk (Kd.R_below (by (with_reducible repeat (first | apply Kd.R_alloc | apply Kd.R_drewN | apply Kd.R_drew)); exact HO_20.out) hb); have n2_ := Aside0.mk (Kd.V_below (by (with_reducible repeat (first | apply Kd.V_alloc | apply Kd.V_drewN | apply Kd.V_drew)); exact HO_324000.out) hb); have n3_ := Aside0.mk (Kd.V_below (by (with_reducible repeat (first | apply Kd.V_alloc | apply Kd.V_drewN | apply Kd.V_drew)); exact HO_336000.out) hb); have n4_ := Aside0.mk (Kd.V_below (by (with_reducible repeat (first | apply Kd.V_alloc | apply Kd.V_drewN | apply Kd.V_drew)); exact HO_346000.out) hb); have n5_ := Aside0.mk (Kd.V_below (by (with_reducible repeat (first | apply Kd.V_alloc | apply Kd.V_drewN | apply Kd.V_drew)); exact HO_355000.out) hb); have n6_ := Aside0.mk (blk_below (g := gb315) (o := .cells #[.slice A0 l0.length c0, .int .i64 a1] 28 (0, 0)) (by (with_reducible repeat (first | refine blk_drewN ?_ _ | refine blk_drew ?_ | refine blk_alloc ?_ _)); exact BK315.out) hb); have n7_ := Aside0.mk (blk_below (g := gb316) (o := .cells #[.slice A0 l0.length c0, .int .i64 a1] 29 (0, 0)) (by (with_reducible repeat (first | refine blk_drewN ?_ _ | refine blk_drew ?_ | refine blk_alloc ?_ _)); exact BK316.out) hb); have n8_ := Aside0.mk (blk_below (g := gb323) (o := .cells #[.slice Ao23 t318.length co23, .int .i64 t321] 28 (0, 0)) (by (with_reducible repeat (first | refine blk_drewN ?_ _ | refine blk_drew ?_ | refine blk_alloc ?_ _)); exact BK323.out) hb); have n9_ := Aside0.mk (blk_below (g := gb335) (o := .cells #[.slice Ao34 t330.length co34, .int .i64 t333] 29 (0, 0)) (by (with_reducible repeat (first | refine blk_drewN ?_ _ | refine blk_drew ?_ | refine blk_alloc ?_ _)); exact BK335.out) hb); have n10_ := Aside0.mk (blk_below (g := gb345) (o := .cells #[.slice Ao67 t340.length co67, .int .i64 t343] 28 (0, 0)) (by (with_reducible repeat (first | refine blk_drewN ?_ _ | refine blk_drew ?_ | refine blk_alloc ?_ _)); exact BK345.out) hb); have n11_ := Aside0.mk (blk_below (g := gb354) (o := .cells #[.slice Ao79 t349.length co79, .int .i64 t352] 29 (0, 0)) (by (with_reducible repeat (first | refine blk_drewN ?_ _ | refine blk_drew ?_ | refine blk_alloc ?_ _)); exact BK354.out) hb); have n12_ := Aside0.mk (below_step (by repeat (first | (with_reducible first | exact HB.out | apply below_alloc | apply pw_below_drewN | apply below_drew1 | refine below_set ?_ GE315.out | refine below_set ?_ GE316.out | refine below_set ?_ GE323.out | refine below_set ?_ GE335.out | refine below_set ?_ GE345.out | refine below_set ?_ GE354.out) | exact HB.out)) hb); clear HO_17; clear HO_20; clear HO_324000; clear HO_336000; clear HO_346000; clear HO_355000; clear BK315; clear BK316; clear BK323; clear BK335; clear BK345; clear BK354; clear HB; have HO_17 := n0_; have HO_20 := n1_; have HO_324000 := n2_; have HO_336000 := n3_; have HO_346000 := n4_; have HO_355000 := n5_; have BK315 := n6_; have BK316 := n7_; have BK323 := n8_; have BK335 := n9_; have BK345 := n10_; have BK354 := n11_; have HB := n12_; clear n0_ n1_ n2_ n3_ n4_ n5_ n6_ n7_ n8_ n9_ n10_ n11_ n12_; (try clear hb); (try clear hb2); (try clear hk); (try clear hi)))
              go_ret
              exact ⟨by first | rfl | (simp [errW_none, errW_some] <;> rfl) | (simp [*, errW_none, errW_some] <;> rfl), by repeat (first | (with_reducible first | exact HB.out | apply below_alloc | apply pw_below_drewN | apply below_drew1 | refine below_set ?_ GE315.out | refine below_set ?_ GE316.out | refine below_set ?_ GE323.out | refine below_set ?_ GE335.out | refine below_set ?_ GE345.out | refine below_set ?_ GE354.out) | exact HB.out)⟩
             ·
              rw [if_neg c93] at H
              exact absurd H (by simp)
            ·
             rw [if_neg c91] at H
             exact absurd H (by simp)
           ·
            rw [if_neg c90] at H
            exact absurd H (by simp)
          ·
           replace c89 := Bool.eq_false_iff.mpr c89
           subst c89
           have H1 : (none) = some r := by rw [if_neg (show ¬ (false = true) by decide)] at H; exact H
           clear H
           have H := H1
           clear H1
           exact absurd H (by simp)
         ·
          replace c87 := Bool.eq_false_iff.mpr c87
          subst c87
          have H1 : ((samphireref02_Same.f kj59 t337 t346).bind fun t358 => (if t358 = true then (if t343 = t352 then (if t344 = t353 then ((draw_Left.f l0 a1).bind fun t359 => (if t359 = 0 then ((samphirelaw07_awake.f kj59).bind fun t360 => (some t360)) else (none))) else (none)) else (none)) else (none))) = some r := by rw [if_neg (show ¬ (false = true) by decide)] at H; exact H
          clear H
          have H := H1
          clear H1
          replace H := Option.bind_eq_some_iff.mp H
          obtain ⟨t358, A1140, H⟩ := H
          replace H : (if t358 = true then (if t343 = t352 then (if t344 = t353 then ((draw_Left.f l0 a1).bind fun t359 => (if t359 = 0 then ((samphirelaw07_awake.f kj59).bind fun t360 => (some t360)) else (none))) else (none)) else (none)) else (none)) = some r := H
          have A114 := Aside0.mk A1140
          clear A1140
          by_cases c115 : t358 = true
          ·
           subst c115
           have H1 : (if t343 = t352 then (if t344 = t353 then ((draw_Left.f l0 a1).bind fun t359 => (if t359 = 0 then ((samphirelaw07_awake.f kj59).bind fun t360 => (some t360)) else (none))) else (none)) else (none)) = some r := by rw [if_pos rfl] at H; exact H
           clear H
           have H := H1
           clear H1
           by_cases c116 : t343 = t352
           ·
            rw [if_pos c116] at H
            have c116b0 : (t343 == t352) = true := beq_iff_eq.mpr c116
            have c116b1 : (t343 != t352) = false := bne_eq_false_iff_eq.mpr c116
            clear c116
            by_cases c117 : t344 = t353
            ·
             rw [if_pos c117] at H
             have c117b0 : (t344 == t353) = true := beq_iff_eq.mpr c117
             have c117b1 : (t344 != t353) = false := bne_eq_false_iff_eq.mpr c117
             clear c117
             replace H := Option.bind_eq_some_iff.mp H
             obtain ⟨t359, A1180, H⟩ := H
             replace H : (if t359 = 0 then ((samphirelaw07_awake.f kj59).bind fun t360 => (some t360)) else (none)) = some r := H
             have A118 := Aside0.mk A1180
             clear A1180
             by_cases c119 : t359 = 0
             ·
              rw [if_pos c119] at H
              have c119b0 : (t359 == 0) = true := beq_iff_eq.mpr c119
              have c119b1 : (t359 != 0) = false := bne_eq_false_iff_eq.mpr c119
              clear c119
              replace H := Option.bind_eq_some_iff.mp H
              obtain ⟨t360, A1200, H⟩ := H
              replace H : (some t360) = some r := H
              have A120 := Aside0.mk A1200
              clear A1200
              obtain rfl := Option.some.inj H
              obtain ⟨Ao121, co121, eo121⟩ := Kd.R_slice HO_17.out
              subst eo121
              obtain ⟨Ao122, co122, eo122⟩ := Kd.R_slice HO_20.out
              subst eo122
              go_wp2_with (first | ((with_reducible refine gate_callee (f := 15) rfl ?_); refine goesL_ (some 98) rfl rfl Try.func15 (by kernel_rfl) rfl #[.slice Ao121 t337.length co121, .slice Ao122 t346.length co122] rfl (by (try simp only [List.map_toArray, List.map_cons, List.map_nil]); first | done | rfl | (simp only [List.length_drop, List.length_take]; rfl)) ?_; (with_reducible refine (samphireref02_Same.calls kj59 _ _ t337 _ _ t346 true _ ?side1 ?side2 ?side3 ?side4 A114.out).mono ?_); (case side1 => repeat (first | exact (Kd.R_reads' HO_17.out).2.2 | (with_reducible refine Kd.C_alloc ?_ _) | (with_reducible refine Kd.C_drewN ?_ _) | (with_reducible refine Kd.C_drew ?_))); (case side2 => exact (Kd.R_reads' HO_17.out).2.1); (case side3 => repeat (first | exact (Kd.R_reads' HO_20.out).2.2 | (with_reducible refine Kd.C_alloc ?_ _) | (with_reducible refine Kd.C_drewN ?_ _) | (with_reducible refine Kd.C_drew ?_))); (case side4 => exact (Kd.R_reads' HO_20.out).2.1); rintro e w' ⟨rfl, ⟨nd, rfl⟩⟩; refine ⟨_, rfl, ?_⟩; have hnb123 := NB345_315.out; have hnc123 := NB315_345.out; have hnb124 := NB345_316.out; have hnc124 := NB316_345.out; have hnb125 := NB345_323.out; have hnc125 := NB323_345.out; have hnb126 := NB345_335.out; have hnc126 := NB335_345.out; have hnb127 := NB345_354.out; have hnc127 := NB354_345.out; have hcz128_0 : wc.cell? ⟨gb345, 0, none⟩ = some (.slice Ao67 t340.length co67) := (blk_cell BK345.out 0).trans rfl; have hcz128_1 : wc.cell? ⟨gb345, 1, none⟩ = some (.int .i64 t343) := (blk_cell BK345.out 1).trans rfl; have hfz128_0 := blk_frozen BK345.out 0; have hfz128_1 := blk_frozen BK345.out 1; have hnb129 := NB354_315.out; have hnc129 := NB315_354.out; have hnb130 := NB354_316.out; have hnc130 := NB316_354.out; have hnb131 := NB354_323.out; have hnc131 := NB323_354.out; have hnb132 := NB354_335.out; have hnc132 := NB335_354.out; have hcz133_0 : wc.cell? ⟨gb354, 0, none⟩ = some (.slice Ao79 t349.length co79) := (blk_cell BK354.out 0).trans rfl; have hcz133_1 : wc.cell? ⟨gb354, 1, none⟩ = some (.int .i64 t352) := (blk_cell BK354.out 1).trans rfl; have hfz133_0 := blk_frozen BK354.out 0; have hfz133_1 := blk_frozen BK354.out 1; have hnb134 := NB315_316.out; have hnc134 := NB316_315.out; have hnb135 := NB315_323.out; have hnc135 := NB323_315.out; have hnb136 := NB315_335.out; have hnc136 := NB335_315.out; have hcz137_0 : wc.cell? ⟨gb315, 0, none⟩ = some (.slice A0 l0.length c0) := (blk_cell BK315.out 0).trans rfl; have hcz137_1 : wc.cell? ⟨gb315, 1, none⟩ = some (.int .i64 a1) := (blk_cell BK315.out 1).trans rfl; have hfz137_0 := blk_frozen BK315.out 0; have hfz137_1 := blk_frozen BK315.out 1) | (go_at_call 16; (with_reducible refine (draw_Left.calls _ _ l0 a1 t359 _ ?side1 ?side2 A118.out).mono ?_); (case side1 => repeat (first | exact (Kd.C_below HR0.out (by repeat (first | (with_reducible first | exact HB.out | apply below_alloc | apply pw_below_drewN | apply below_drew1 | refine below_set ?_ GE315.out | refine below_set ?_ GE316.out | refine below_set ?_ GE323.out | refine below_set ?_ GE335.out | refine below_set ?_ GE345.out | refine below_set ?_ GE354.out) | exact HB.out))) | (with_reducible refine Kd.C_alloc ?_ _) | (with_reducible refine Kd.C_drewN ?_ _) | (with_reducible refine Kd.C_drew ?_))); (case side2 => exact HC0.out); rintro e w138 ⟨rfl, hb⟩; have n0_ := Aside0.mk (Kd.R_below (by (with_reducible repeat (first | apply Kd.R_alloc | apply Kd.R_drewN | apply Kd.R_drew)); exact HO_17.out) hb); have n1_ := Aside0.mk (Kd.R_below (by (with_reducible repeat (first | apply Kd.R_alloc | apply Kd.R_drewN | apply Kd.R_drew)); exact HO_20.out) hb); have n2_ := Aside0.mk (Kd.V_below (by (with_reducible repeat (first | apply Kd.V_alloc | apply Kd.V_drewN | apply Kd.V_drew)); exact HO_324000.out) hb); have n3_ := Aside0.mk (Kd.V_below (by (with_reducible repeat (first | apply Kd.V_alloc | apply Kd.V_drewN | apply Kd.V_drew)); exact HO_336000.out) hb); have n4_ := Aside0.mk (Kd.V_below (by (with_reducible repeat (first | apply Kd.V_alloc | apply Kd.V_drewN | apply Kd.V_drew)); exact HO_346000.out) hb); have n5_ := Aside0.mk (Kd.V_below (by (with_reducible repeat (first | apply Kd.V_alloc | apply Kd.V_drewN | apply Kd.V_drew)); exact HO_355000.out) hb); have n6_ := Aside0.mk (blk_below (g := gb315) (o := .cells #[.slice A0 l0.length c0, .int .i64 a1] 28 (0, 0)) (by (with_reducible repeat (first | refine blk_drewN ?_ _ | refine blk_drew ?_ | refine blk_alloc ?_ _)); exact BK315.out) hb); have n7_ := Aside0.mk (blk_below (g := gb316) (o := .cells #[.slice A0 l0.length c0, .int .i64 a1] 29 (0, 0)) (by (with_reducible repeat (first | refine blk_drewN ?_ _ | refine blk_drew ?_ | refine blk_alloc ?_ _)); exact BK316.out) hb); have n8_ := Aside0.mk (blk_below (g := gb323) (o := .cells #[.slice Ao23 t318.length co23, .int .i64 t321] 28 (0, 0)) (by (with_reducible repeat (first | refine blk_drewN ?_ _ | refine blk_drew ?_ | refine blk_alloc ?_ _)); exact BK323.out) hb); have n9_ := Aside0.mk (blk_below (g := gb335) (o := .cells #[.slice Ao34 t330.length co34, .int .i64 t333] 29 (0, 0)) (by (with_reducible repeat (first | refine blk_drewN ?_ _ | refine blk_drew ?_ | refine blk_alloc ?_ _)); exact BK335.out) hb); have n10_ := Aside0.mk (blk_below (g := gb345) (o := .cells #[.slice Ao67 t340.length co67, .int .i64 t343] 28 (0, 0)) (by (with_reducible repeat (first | refine blk_drewN ?_ _ | refine blk_drew ?_ | refine blk_alloc ?_ _)); exact BK345.out) hb); have n11_ := Aside0.mk (blk_below (g := gb354) (o := .cells #[.slice Ao79 t349.length co79, .int .i64 t352] 29 (0, 0)) (by (with_reducible repeat (first | refine blk_drewN ?_ _ | refine blk_drew ?_ | refine blk_alloc ?_ _)); exact BK354.out) hb); have n12_ := Aside0.mk (below_step (by repeat (first | (with_reducible first | exact HB.out | apply below_alloc | apply pw_below_drewN | apply below_drew1 | refine below_set ?_ GE315.out | refine below_set ?_ GE316.out | refine below_set ?_ GE323.out | refine below_set ?_ GE335.out | refine below_set ?_ GE345.out | refine below_set ?_ GE354.out) | exact HB.out)) hb); clear HO_17; clear HO_20; clear HO_324000; clear HO_336000; clear HO_346000; clear HO_355000; clear BK315; clear BK316; clear BK323; clear BK335; clear BK345; clear BK354; clear HB; have HO_17 := n0_; have HO_20 := n1_; have HO_324000 := n2_; have HO_336000 := n3_; have HO_346000 := n4_; have HO_355000 := n5_; have BK315 := n6_; have BK316 := n7_; have BK323 := n8_; have BK335 := n9_; have BK345 := n10_; have BK354 := n11_; have HB := n12_; clear n0_ n1_ n2_ n3_ n4_ n5_ n6_ n7_ n8_ n9_ n10_ n11_ n12_; (try clear hb); (try clear hb2); (try clear hk); (try clear hi)) | (go_at_call 9; (with_reducible refine (samphirelaw07_awake.calls kj59  t360 _ A120.out).mono ?_); rintro e w139 ⟨rfl, hb⟩; have n0_ := Aside0.mk (Kd.R_below (by (with_reducible repeat (first | apply Kd.R_alloc | apply Kd.R_drewN | apply Kd.R_drew)); exact HO_17.out) hb); have n1_ := Aside0.mk (Kd.R_below (by (with_reducible repeat (first | apply Kd.R_alloc | apply Kd.R_drewN | apply Kd.R_drew)); exact HO_20.out) hb); have n2_ := Aside0.mk (Kd.V_below (by (with_reducible repeat (first | apply Kd.V_alloc | apply Kd.V_drewN | apply Kd.V_drew)); exact HO_324000.out) hb); have n3_ := Aside0.mk (Kd.V_below (by (with_reducible repeat (first | apply Kd.V_alloc | apply Kd.V_drewN | apply Kd.V_drew)); exact HO_336000.out) hb); have n4_ := Aside0.mk (Kd.V_below (by (with_reducible repeat (first | apply Kd.V_alloc | apply Kd.V_drewN | apply Kd.V_drew)); exact HO_346000.out) hb); have n5_ := Aside0.mk (Kd.V_below (by (with_reducible repeat (first | apply Kd.V_alloc | apply Kd.V_drewN | apply Kd.V_drew)); exact HO_355000.out) hb); have n6_ := Aside0.mk (blk_below (g := gb315) (o := .cells #[.slice A0 l0.length c0, .int .i64 a1] 28 (0, 0)) (by (with_reducible repeat (first | refine blk_drewN ?_ _ | refine blk_drew ?_ | refine blk_alloc ?_ _)); exact BK315.out) hb); have n7_ := Aside0.mk (blk_below (g := gb316) (o := .cells #[.slice A0 l0.length c0, .int .i64 a1] 29 (0, 0)) (by (with_reducible repeat (first | refine blk_drewN ?_ _ | refine blk_drew ?_ | refine blk_alloc ?_ _)); exact BK316.out) hb); have n8_ := Aside0.mk (blk_below (g := gb323) (o := .cells #[.slice Ao23 t318.length co23, .int .i64 t321] 28 (0, 0)) (by (with_reducible repeat (first | refine blk_drewN ?_ _ | refine blk_drew ?_ | refine blk_alloc ?_ _)); exact BK323.out) hb); have n9_ := Aside0.mk (blk_below (g := gb335) (o := .cells #[.slice Ao34 t330.length co34, .int .i64 t333] 29 (0, 0)) (by (with_reducible repeat (first | refine blk_drewN ?_ _ | refine blk_drew ?_ | refine blk_alloc ?_ _)); exact BK335.out) hb); have n10_ := Aside0.mk (blk_below (g := gb345) (o := .cells #[.slice Ao67 t340.length co67, .int .i64 t343] 28 (0, 0)) (by (with_reducible repeat (first | refine blk_drewN ?_ _ | refine blk_drew ?_ | refine blk_alloc ?_ _)); exact BK345.out) hb); have n11_ := Aside0.mk (blk_below (g := gb354) (o := .cells #[.slice Ao79 t349.length co79, .int .i64 t352] 29 (0, 0)) (by (with_reducible repeat (first | refine blk_drewN ?_ _ | refine blk_drew ?_ | refine blk_alloc ?_ _)); exact BK354.out) hb); have n12_ := Aside0.mk (below_step (by repeat (first | (with_reducible first | exact HB.out | apply below_alloc | apply pw_below_drewN | apply below_drew1 | refine below_set ?_ GE315.out | refine below_set ?_ GE316.out | refine below_set ?_ GE323.out | refine below_set ?_ GE335.out | refine below_set ?_ GE345.out | refine below_set ?_ GE354.out) | exact HB.out)) hb); clear HO_17; clear HO_20; clear HO_324000; clear HO_336000; clear HO_346000; clear HO_355000; clear BK315; clear BK316; clear BK323; clear BK335; clear BK345; clear BK354; clear HB; have HO_17 := n0_; have HO_20 := n1_; have HO_324000 := n2_; have HO_336000 := n3_; have HO_346000 := n4_; have HO_355000 := n5_; have BK315 := n6_; have BK316 := n7_; have BK323 := n8_; have BK335 := n9_; have BK345 := n10_; have BK354 := n11_; have HB := n12_; clear n0_ n1_ n2_ n3_ n4_ n5_ n6_ n7_ n8_ n9_ n10_ n11_ n12_; (try clear hb); (try clear hb2); (try clear hk); (try clear hi)))
              go_ret
              exact ⟨by first | rfl | (simp [errW_none, errW_some] <;> rfl) | (simp [*, errW_none, errW_some] <;> rfl), by repeat (first | (with_reducible first | exact HB.out | apply below_alloc | apply pw_below_drewN | apply below_drew1 | refine below_set ?_ GE315.out | refine below_set ?_ GE316.out | refine below_set ?_ GE323.out | refine below_set ?_ GE335.out | refine below_set ?_ GE345.out | refine below_set ?_ GE354.out) | exact HB.out)⟩
             ·
              rw [if_neg c119] at H
              exact absurd H (by simp)
            ·
             rw [if_neg c117] at H
             exact absurd H (by simp)
           ·
            rw [if_neg c116] at H
            exact absurd H (by simp)
          ·
           replace c115 := Bool.eq_false_iff.mpr c115
           subst c115
           have H1 : (none) = some r := by rw [if_neg (show ¬ (false = true) by decide)] at H; exact H
           clear H
           have H := H1
           clear H1
           exact absurd H (by simp)

/-- THE ONE PURE STATEMENT of samphirelaw07_DrawTells: yours. -/
def samphirelaw07_DrawTells.Pure : Prop := ∀ (l0 : List Int) (a1 : Int) (a2 : Int) (l3 : List Int), l0.length ≤ maxLen → l0.length * 8 ≤ 140737488351232 → (∀ x ∈ l0, (Lit.int .u64 x).wf = true) → (Lit.int .i64 a1).wf = true → (Lit.int .u64 a2).wf = true → l3.length ≤ maxLen → l3.length * 4 ≤ 140737488351232 → (∀ x ∈ l3, (Lit.int .u32 x).wf = true) → ∃ k, samphirelaw07_DrawTells.f k l0 a1 a2 l3 = some true
theorem samphirelaw07_DrawTells.walk (P : samphirelaw07_DrawTells.Pure) (a0 : Option Addr) (len0 cap0 : Nat) (z0 : List Int) (a1 : Int) (a2 : Int) (a3 : Option Addr) (len3 cap3 : Nat) (z3 : List Int) (w : World) (w0 : (a0 = none ∧ len0 = 0 ∧ cap0 = 0 ∧ z0 = []) ∨ ∃ x, a0 = some x ∧ len0 ≤ cap0 ∧ cap0 ≤ maxLen ∧ z0.length = cap0 ∧ (∀ i, i < z0.length → w.cell? (x.add i) = some (.int .u64 (z0.getD i 0))) ∧ ∀ n ∈ z0, (Lit.int .u64 n).wf = true) (y0 : len0 * 8 ≤ 140737488351232) (w1 : (Lit.int .i64 a1).wf = true) (w2 : (Lit.int .u64 a2).wf = true) (w3 : (a3 = none ∧ len3 = 0 ∧ cap3 = 0 ∧ z3 = []) ∨ ∃ x, a3 = some x ∧ len3 ≤ cap3 ∧ cap3 ≤ maxLen ∧ z3.length = cap3 ∧ (∀ i, i < z3.length → w.cell? (x.add i) = some (.int .u32 (z3.getD i 0))) ∧ ∀ n ∈ z3, (Lit.int .u32 n).wf = true) (y3 : len3 * 4 ≤ 140737488351232) :
  Calls Try.prog 3 #[.slice a0 len0 cap0, .int .i64 a1, .int .u64 a2, .slice a3 len3 cap3] w fun e w' => e = .returned (.bool true) ∧ Below w.heap.size w w' := by
 obtain ⟨l0, rfl, hr0, hm0, hw0, hc0⟩ := ReadsInt.ofRowC w0
 obtain ⟨l3, rfl, hr3, hm3, hw3, hc3⟩ := ReadsInt.ofRowC w3
 obtain ⟨k, h⟩ := P l0 a1 a2 l3 hm0 y0 hw0 w1 w2 hm3 y3 hw3
 refine (samphirelaw07_DrawTells.calls k _ _ l0 a1 a2 _ _ l3 true w (Kd.C_of_reads (d := (0 : Int)) (h1 := fun _ => rfl) hr0) hc0 (Kd.C_of_reads (d := (0 : Int)) (h1 := fun _ => rfl) hr3) hc3 h).mono ?_
 rintro e w' ⟨rfl, hd⟩
 exact ⟨rfl, hd⟩

end Go.Proofs.Ytpgfadljcmakfaa.T
