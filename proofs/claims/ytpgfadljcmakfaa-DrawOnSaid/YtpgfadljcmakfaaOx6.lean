/- Walks of Go functions, each against a plain function over numbers and lists; written by this session's program printx.py over the kit's print; no condition but those that each theorem states. -/
import Derived.Test.YtpgfadljcmakfaaOx0
import Derived.Test.YtpgfadljcmakfaaOx1
import Derived.Test.YtpgfadljcmakfaaOx5
namespace Go.Proofs.Ytpgfadljcmakfaa.O
open Go.Proofs.Ytpgfadljcmakfaa.Q Go.RowKit Go.Proofs.YtpgfadljcmakfaaW.PrintWords Go.Proofs.YtpgfadljcmakfaaW.PrintLast Go.Proofs.YtpgfadljcmakfaaW.PrintMore
attribute [local go_sem] max2_int min2_int max_two min_two max_three min_three max_four min_four   -- for this text's walks alone
set_option linter.unusedVariables false
set_option linter.unusedSimpArgs false

/-! ### samphirelaw07_DrawOn: function 6 -/
mutual
def samphirelaw07_DrawOn.j0 : Nat → List Int → List Int → List Int → Bool → Option (Bool)
  | 0, _, _, _, _ => none
  | k + 1, x0, x1, x2, x27 => if x27 = true then ((samphirelaw07_awake.f k).bind fun t242 => (some t242)) else ((some (([] : List Int) : List Int)).bind fun y243 => (if y243.length + x0.length < 17592186044416 then ((some (y243 ++ x0 : List Int)).bind fun y246 => (if y246.length + x1.length < 17592186044416 then (samphirelaw07_DrawOn.l0 k x2 (x2.length : Int) 0 x0 0 (y246 ++ x1) 0) else (none))) else (none)))
def samphirelaw07_DrawOn.l0 : Nat → List Int → Int → Int → List Int → Int → List Int → Int → Option (Bool)
  | 0, _, _, _, _, _, _, _ => none
  | k + 1, x37, x38, x39, x253000, x253001, x254000, x254001 => if x39 < x38 then (if 0 ≤ x39 then (if x39 < (x37.length : Int) then ((draw_Below.f k x253000 x253001 (rd x37 x39)).bind fun bt256 => ((draw_Below.f k x254000 x254001 (rd x37 x39)).bind fun bt263 => (if bt256.2.2.2 = 0 then (if bt263.2.2.2 = 0 then (if bt256.1 = bt263.1 then (if bt256.2.2.1 = bt263.2.2.1 then (if bt256.2.2.2 = 7 then (samphirelaw07_DrawOn.j2 k (rd x37 x39) bt256.1 bt256.2.2.2 x37 x38 x39 (bt263.2.2.2 != bt256.2.2.2) x253000 x253001 bt256.2.1 bt256.2.2.1 bt263.2.1 bt263.2.2.1) else (samphirelaw07_DrawOn.j2 k (rd x37 x39) bt256.1 bt256.2.2.2 x37 x38 x39 false x253000 x253001 bt256.2.1 bt256.2.2.1 bt263.2.1 bt263.2.2.1)) else (samphirelaw07_DrawOn.j2 k (rd x37 x39) bt256.1 bt256.2.2.2 x37 x38 x39 true x253000 x253001 bt256.2.1 bt256.2.2.1 bt263.2.1 bt263.2.2.1)) else (samphirelaw07_DrawOn.j2 k (rd x37 x39) bt256.1 bt256.2.2.2 x37 x38 x39 true x253000 x253001 bt256.2.1 bt256.2.2.1 bt263.2.1 bt263.2.2.1)) else (samphirelaw07_DrawOn.j2 k (rd x37 x39) bt256.1 bt256.2.2.2 x37 x38 x39 true x253000 x253001 bt256.2.1 bt256.2.2.1 bt263.2.1 bt263.2.2.1)) else (if bt256.2.2.2 = 7 then (samphirelaw07_DrawOn.j2 k (rd x37 x39) bt256.1 bt256.2.2.2 x37 x38 x39 (bt263.2.2.2 != bt256.2.2.2) x253000 x253001 bt256.2.1 bt256.2.2.1 bt263.2.1 bt263.2.2.1) else (samphirelaw07_DrawOn.j2 k (rd x37 x39) bt256.1 bt256.2.2.2 x37 x38 x39 false x253000 x253001 bt256.2.1 bt256.2.2.1 bt263.2.1 bt263.2.2.1))))) else (none)) else (none)) else ((samphirelaw07_awake.f k).bind fun t254 => (some t254))
def samphirelaw07_DrawOn.j2 : Nat → Int → Int → Int → List Int → Int → Int → Bool → List Int → Int → List Int → Int → List Int → Int → Option (Bool)
  | 0, _, _, _, _, _, _, _, _, _, _, _, _, _ => none
  | k + 1, x10, x11, x13, x37, x38, x39, x83, x253000, x253001, x263000, x263001, x270000, x270001 => if x83 = true then (some false) else (if x13 = 0 then (if x263001 < x253001 then (some false) else (if x11 ≥ x10 then (some false) else (samphirelaw07_DrawOn.l0 k x37 x38 (wrap64 (x39 + 1)) x263000 x263001 x270000 x270001))) else ((samphirelaw07_awake.f k).bind fun t270 => (some t270)))
end
def samphirelaw07_DrawOn.f (k : Nat) (l0 : List Int) (l1 : List Int) (l2 : List Int) : Option (Bool) := if (wrap64 ((l0.length : Int) + (l1.length : Int))) > 60 then (samphirelaw07_DrawOn.j0 k l0 l1 l2 true) else (samphirelaw07_DrawOn.j0 k l0 l1 l2 (decide ((l2.length : Int) > 20)))
theorem samphirelaw07_DrawOn.mono_l : ∀ k, (∀ y0 y1 y2 y3, LeO (samphirelaw07_DrawOn.j0 k y0 y1 y2 y3) (samphirelaw07_DrawOn.j0 (k + 1) y0 y1 y2 y3)) ∧ (∀ y0 y1 y2 y3 y4 y5 y6, LeO (samphirelaw07_DrawOn.l0 k y0 y1 y2 y3 y4 y5 y6) (samphirelaw07_DrawOn.l0 (k + 1) y0 y1 y2 y3 y4 y5 y6)) ∧ (∀ y0 y1 y2 y3 y4 y5 y6 y7 y8 y9 y10 y11 y12, LeO (samphirelaw07_DrawOn.j2 k y0 y1 y2 y3 y4 y5 y6 y7 y8 y9 y10 y11 y12) (samphirelaw07_DrawOn.j2 (k + 1) y0 y1 y2 y3 y4 y5 y6 y7 y8 y9 y10 y11 y12))
  | 0 => ⟨fun _ _ _ _ r h => by simp [samphirelaw07_DrawOn.j0] at h, fun _ _ _ _ _ _ _ r h => by simp [samphirelaw07_DrawOn.l0] at h, fun _ _ _ _ _ _ _ _ _ _ _ _ _ r h => by simp [samphirelaw07_DrawOn.j2] at h⟩
  | k + 1 => by
    obtain ⟨ih0, ih1, ih2⟩ := samphirelaw07_DrawOn.mono_l k
    refine ⟨?_, ?_, ?_⟩
    · intro y0 y1 y2 y3
      unfold samphirelaw07_DrawOn.j0
      repeat' first
      | (with_reducible exact ih0 _ _ _ _)
      | (with_reducible exact ih1 _ _ _ _ _ _ _)
      | (with_reducible exact ih2 _ _ _ _ _ _ _ _ _ _ _ _ _)
      | (with_reducible exact draw_Below.mono _ _ _ _)
      | (with_reducible exact samphirelaw07_awake.mono _)
      | (with_reducible exact LeO.refl _)
      | (with_reducible exact LeO.none _)
      | (with_reducible refine LeO.ite ?_ ?_)
      | (with_reducible refine LeO.bind ?_ (fun _ => ?_))
      | exact ih0 _ _ _ _
      | exact ih1 _ _ _ _ _ _ _
      | exact ih2 _ _ _ _ _ _ _ _ _ _ _ _ _
      | exact draw_Below.mono _ _ _ _
      | exact samphirelaw07_awake.mono _
      | exact LeO.none _
      | refine LeO.ite ?_ ?_
      | refine LeO.bind ?_ (fun _ => ?_)
    · intro y0 y1 y2 y3 y4 y5 y6
      unfold samphirelaw07_DrawOn.l0
      repeat' first
      | (with_reducible exact ih0 _ _ _ _)
      | (with_reducible exact ih1 _ _ _ _ _ _ _)
      | (with_reducible exact ih2 _ _ _ _ _ _ _ _ _ _ _ _ _)
      | (with_reducible exact draw_Below.mono _ _ _ _)
      | (with_reducible exact samphirelaw07_awake.mono _)
      | (with_reducible exact LeO.refl _)
      | (with_reducible exact LeO.none _)
      | (with_reducible refine LeO.ite ?_ ?_)
      | (with_reducible refine LeO.bind ?_ (fun _ => ?_))
      | exact ih0 _ _ _ _
      | exact ih1 _ _ _ _ _ _ _
      | exact ih2 _ _ _ _ _ _ _ _ _ _ _ _ _
      | exact draw_Below.mono _ _ _ _
      | exact samphirelaw07_awake.mono _
      | exact LeO.none _
      | refine LeO.ite ?_ ?_
      | refine LeO.bind ?_ (fun _ => ?_)
    · intro y0 y1 y2 y3 y4 y5 y6 y7 y8 y9 y10 y11 y12
      unfold samphirelaw07_DrawOn.j2
      repeat' first
      | (with_reducible exact ih0 _ _ _ _)
      | (with_reducible exact ih1 _ _ _ _ _ _ _)
      | (with_reducible exact ih2 _ _ _ _ _ _ _ _ _ _ _ _ _)
      | (with_reducible exact draw_Below.mono _ _ _ _)
      | (with_reducible exact samphirelaw07_awake.mono _)
      | (with_reducible exact LeO.refl _)
      | (with_reducible exact LeO.none _)
      | (with_reducible refine LeO.ite ?_ ?_)
      | (with_reducible refine LeO.bind ?_ (fun _ => ?_))
      | exact ih0 _ _ _ _
      | exact ih1 _ _ _ _ _ _ _
      | exact ih2 _ _ _ _ _ _ _ _ _ _ _ _ _
      | exact draw_Below.mono _ _ _ _
      | exact samphirelaw07_awake.mono _
      | exact LeO.none _
      | refine LeO.ite ?_ ?_
      | refine LeO.bind ?_ (fun _ => ?_)
theorem samphirelaw07_DrawOn.mono : ∀ a0 a1 a2 k, LeO (samphirelaw07_DrawOn.f k a0 a1 a2) (samphirelaw07_DrawOn.f (k + 1) a0 a1 a2) := by
  intro a0 a1 a2 k
  obtain ⟨ih0, ih1, ih2⟩ := samphirelaw07_DrawOn.mono_l k
  unfold samphirelaw07_DrawOn.f
  repeat' first
      | (with_reducible exact ih0 _ _ _ _)
      | (with_reducible exact ih1 _ _ _ _ _ _ _)
      | (with_reducible exact ih2 _ _ _ _ _ _ _ _ _ _ _ _ _)
      | (with_reducible exact draw_Below.mono _ _ _ _)
      | (with_reducible exact samphirelaw07_awake.mono _)
      | (with_reducible exact LeO.refl _)
      | (with_reducible exact LeO.none _)
      | (with_reducible refine LeO.ite ?_ ?_)
      | (with_reducible refine LeO.bind ?_ (fun _ => ?_))
      | exact ih0 _ _ _ _
      | exact ih1 _ _ _ _ _ _ _
      | exact ih2 _ _ _ _ _ _ _ _ _ _ _ _ _
      | exact draw_Below.mono _ _ _ _
      | exact samphirelaw07_awake.mono _
      | exact LeO.none _
      | refine LeO.ite ?_ ?_
      | refine LeO.bind ?_ (fun _ => ?_)
set_option maxHeartbeats 8000000 in
set_option maxRecDepth 100000 in
theorem samphirelaw07_DrawOn.calls (k : Nat) (P0_ : Nat → Prop) (A0 : Option Addr) (c0 : Nat) (l0 : List Int) (A1 : Option Addr) (c1 : Nat) (l1 : List Int) (A2 : Option Addr) (c2 : Nat) (l2 : List Int) (r : Bool) (w : World) (hs0 : Kd.V (Kd.int .u64) 23 w w.heap.size (fun k_ => P0_ k_) (.slice A0 l0.length c0) l0) (hr1 : Kd.C (Kd.int .u64) w A1 l1.length l1) (hc1 : l1.length ≤ c1) (hr2 : Kd.C (Kd.int .u64) w A2 l2.length l2) (hc2 : l2.length ≤ c2) (h : samphirelaw07_DrawOn.f k l0 l1 l2 = some r) :
    Calls Try.prog 6 #[.slice A0 l0.length c0, .slice A1 l1.length c1, .slice A2 l2.length c2] w fun e w' => e = .returned (.bool r) ∧ Below w.heap.size w w' := by
  have hu28 := Try.underlying28
  have HO0 := Aside0.mk (show Kd.V (Kd.int .u64) 23 w w.heap.size (fun k_ => (P0_ k_ ∨ w.heap.size ≤ k_)) (.slice A0 l0.length c0) l0 from Kd.V_mono hs0 (fun k_ hk => .inl hk))
  have HR1 := Aside0.mk hr1
  have HC1 := Aside0.mk hc1
  clear hr1 hc1
  have HR2 := Aside0.mk hr2
  have HC2 := Aside0.mk hc2
  clear hr2 hc2
  have HB := Aside0.mk (Below.refl w.heap.size w)
  have H : (if (wrap64 ((l0.length : Int) + (l1.length : Int))) > 60 then (samphirelaw07_DrawOn.j0 k l0 l1 l2 true) else (samphirelaw07_DrawOn.j0 k l0 l1 l2 (decide ((l2.length : Int) > 20)))) = some r := h
  clear h
  have HC4 := Aside0.mk H
  clear H
  go_enter Try.func6, Try.ntmps6
  go_upto_region 1 with (fail)
  go_cut [27] (fun v27 wc => ∃ (kq : Nat) (x27_3 : Bool), v27 = .bool x27_3 ∧ Aside0 (samphirelaw07_DrawOn.j0 kq l0 l1 l2 x27_3 = some r) ∧ Aside0 (kq ≤ k) ∧ Aside0 (Kd.V (Kd.int .u64) 23 wc w.heap.size (fun k_ => (P0_ k_ ∨ w.heap.size ≤ k_)) (.slice A0 l0.length c0) l0) ∧ Aside0 (Below w.heap.size w wc))
  case first =>
    have H := HC4.out
    clear HC4
    by_cases c5 : (wrap64 ((l0.length : Int) + (l1.length : Int))) > 60
    · rw [if_pos c5] at H
      have c5b0 : decide (60 < (wrap64 ((l0.length : Int) + (l1.length : Int)))) = true := decide_eq_true c5
      clear c5
      (first | rw [c5b0] | (simp only [i64_w, i32_w]; rw [c5b0]) | skip)
      have H' := Aside0.mk H
      clear H
      go_wp2
      go_meet
      case rel => exact ⟨_, (true), (by first | rfl | (simp; done) | (simp [*]; done)), H', ⟨by first | omega | exact Nat.le_refl _⟩, ⟨by (with_reducible repeat (first | apply Kd.V_alloc | apply Kd.V_drewN | apply Kd.V_drew)); exact HO0.out⟩, ⟨by repeat (first | (with_reducible first | exact HB.out | apply below_alloc | apply pw_below_drewN | apply below_drew1) | exact HB.out)⟩⟩
    · rw [if_neg c5] at H
      have c5b0 : decide (60 < (wrap64 ((l0.length : Int) + (l1.length : Int)))) = false := decide_eq_false c5
      clear c5
      (first | rw [c5b0] | (simp only [i64_w, i32_w]; rw [c5b0]) | skip)
      have H' := Aside0.mk H
      clear H
      go_wp2
      go_meet
      case rel => exact ⟨_, (decide ((l2.length : Int) > 20)), (by first | rfl | (simp; done) | (simp [*]; done)), H', ⟨by first | omega | exact Nat.le_refl _⟩, ⟨by (with_reducible repeat (first | apply Kd.V_alloc | apply Kd.V_drewN | apply Kd.V_drew)); exact HO0.out⟩, ⟨by repeat (first | (with_reducible first | exact HB.out | apply below_alloc | apply pw_below_drewN | apply below_drew1) | exact HB.out)⟩⟩
  case rest =>
    clear HC4
    try clear c1
    try clear c2
    try clear p2
    try clear c5
    try clear c5b0
    obtain ⟨kq, x27_3, rfl, HA, HJ3, HO_0, HB⟩ := hcut
    cases kq with
    | zero => exact absurd HA.out (by simp [samphirelaw07_DrawOn.j0])
    | succ kj3 =>
      have H := HA.out
      clear HA
      simp only [samphirelaw07_DrawOn.j0] at H
      by_cases c6 : x27_3 = true
      · subst c6
        have H1 : ((samphirelaw07_awake.f kj3).bind fun t242 => (some t242)) = some r := by rw [if_pos rfl] at H; exact H
        clear H
        have H := H1
        clear H1
        replace H := Option.bind_eq_some_iff.mp H
        obtain ⟨t242, A70, H⟩ := H
        replace H : (some t242) = some r := H
        have A7 := Aside0.mk A70
        clear A70
        obtain rfl := Option.some.inj H
        go_wp2_with (first | ((with_reducible refine gate_callee (f := 9) rfl ?_); refine goesL_ (some 28) rfl rfl Try.func9 (by kernel_rfl) rfl #[] rfl (by (try simp only [List.map_toArray, List.map_cons, List.map_nil]); first | done | rfl | (simp only [List.length_drop, List.length_take]; rfl)) ?_; (with_reducible refine (samphirelaw07_awake.calls kj3  t242 _ A7.out).mono ?_); rintro e w8 ⟨rfl, hb⟩; refine ⟨_, rfl, ?_⟩; have n0_ := Aside0.mk (Kd.V_below (by (with_reducible repeat (first | apply Kd.V_alloc | apply Kd.V_drewN | apply Kd.V_drew)); exact HO_0.out) hb); have n1_ := Aside0.mk (below_step (by repeat (first | (with_reducible first | exact HB.out | apply below_alloc | apply pw_below_drewN | apply below_drew1) | exact HB.out)) hb); clear HO_0; clear HB; have HO_0 := n0_; have HB := n1_; clear n0_ n1_; (try clear hb); (try clear hb2); (try clear hk); (try clear hi)))
        go_ret
        exact ⟨by first | rfl | (simp [errW_none, errW_some] <;> rfl) | (simp [*, errW_none, errW_some] <;> rfl), by repeat (first | (with_reducible first | exact HB.out | apply below_alloc | apply pw_below_drewN | apply below_drew1) | exact HB.out)⟩
      · replace c6 := Bool.eq_false_iff.mpr c6
        subst c6
        have H1 : ((some (([] : List Int) : List Int)).bind fun y243 => (if y243.length + l0.length < 17592186044416 then ((some (y243 ++ l0 : List Int)).bind fun y246 => (if y246.length + l1.length < 17592186044416 then (samphirelaw07_DrawOn.l0 kj3 l2 (l2.length : Int) 0 l0 0 (y246 ++ l1) 0) else (none))) else (none))) = some r := by rw [if_neg (show ¬ (false = true) by decide)] at H; exact H
        clear H
        have H := H1
        clear H1
        obtain ⟨y243, hy243⟩ : ∃ y_ : List Int, y_ = (([] : List Int)) := ⟨_, rfl⟩
        replace H : (if y243.length + l0.length < 17592186044416 then ((some (y243 ++ l0 : List Int)).bind fun y246 => (if y246.length + l1.length < 17592186044416 then (samphirelaw07_DrawOn.l0 kj3 l2 (l2.length : Int) 0 l0 0 (y246 ++ l1) 0) else (none))) else (none)) = some r := by first | (rw [hy243]; with_reducible exact H) | (have H2_ := (Option.bind_some _ _).symm.trans H; rw [hy243]; with_reducible exact H2_) | (have H2_ := (Option.bind_some _ _).symm.trans H; with_reducible exact H2_) | with_reducible exact H | (rw [hy243]; exact H) | exact H
        have Ny243 := Aside0.mk hy243
        clear hy243
        by_cases c9 : y243.length + l0.length < 17592186044416
        · rw [if_pos c9] at H
          have LMc9 := Aside0.mk c9
          clear c9
          obtain ⟨y246, hy246⟩ : ∃ y_ : List Int, y_ = (y243 ++ l0) := ⟨_, rfl⟩
          replace H : (if y246.length + l1.length < 17592186044416 then (samphirelaw07_DrawOn.l0 kj3 l2 (l2.length : Int) 0 l0 0 (y246 ++ l1) 0) else (none)) = some r := by first | (rw [hy246]; with_reducible exact H) | (have H2_ := (Option.bind_some _ _).symm.trans H; rw [hy246]; with_reducible exact H2_) | (have H2_ := (Option.bind_some _ _).symm.trans H; with_reducible exact H2_) | with_reducible exact H | (rw [hy246]; exact H) | exact H
          have Ny246 := Aside0.mk hy246
          clear hy246
          by_cases c10 : y246.length + l1.length < 17592186044416
          · rw [if_pos c10] at H
            have LMc10 := Aside0.mk c10
            clear c10
            obtain ⟨y249, hy249⟩ : ∃ y_ : List Int, y_ = (y246 ++ l1) := ⟨_, rfl⟩
            replace H : (samphirelaw07_DrawOn.l0 kj3 l2 (l2.length : Int) 0 l0 0 y249 0) = some r := by first | (rw [hy249]; with_reducible exact H) | (have H2_ := (Option.bind_some _ _).symm.trans H; rw [hy249]; with_reducible exact H2_) | (have H2_ := (Option.bind_some _ _).symm.trans H; with_reducible exact H2_) | with_reducible exact H | (rw [hy249]; exact H) | exact H
            have Ny249 := Aside0.mk hy249
            clear hy249
            have H' := Aside0.mk H
            clear H
            go_wp2_with (first | ((with_reducible refine gate_dst (N := 31) rfl ?_); (try (refine gate_guard (by rfl) ?_; dsimp only)); refine Kd.R_lit (Kd.int .u64) _ 23 ?hg (N := 31) ?hd (xs := ([] : List Int)) (inner := []) (ok := fun _ => True) (okp := fun _ => True) ?hr ?hp (fun _ hk => hk) trivial (Below.refl _ _) (Nat.le_refl _) (by simp) ?_; (case hd => rfl); (case hg => rfl); (case hr => first | (go_simp; done) | (go_simp; rfl)); (case hp => exact (Reps.none _ _)); intro v244 w11 ho12 hb hg_ hnew_; clear hg_ hnew_; (first | rw [← Ny243.out] at ho12 | (simp only [Int.reduceToNat] at ho12; rw [← Ny243.out] at ho12)); have n0_ := Aside0.mk (Kd.V_elder' (by (with_reducible repeat (first | apply Kd.V_alloc | apply Kd.V_drewN | apply Kd.V_drew)); exact HO_0.out) (Kd.R_base ho12) hb); have n1_ := Aside0.mk (Kd.R_lower (Kd.R_newM (M := fun k_ => (w.heap.size ≤ k_)) ho12 (below_size (by repeat (first | (with_reducible first | exact HB.out | apply below_alloc | apply pw_below_drewN | apply below_drew1) | exact HB.out))) (fun k_ h_ => h_)) (below_size (by repeat (first | (with_reducible first | exact HB.out | apply below_alloc | apply pw_below_drewN | apply below_drew1) | exact HB.out)))); have n2_ := Aside0.mk (below_step (by repeat (first | (with_reducible first | exact HB.out | apply below_alloc | apply pw_below_drewN | apply below_drew1) | exact HB.out)) hb); clear HO_0; clear HB; have HO_0 := n0_; have HO245 := n1_; have HB := n2_; clear n0_ n1_ n2_; clear hb ho12) | ((with_reducible refine gate_builtin (b := .append) (xs := #[.tmp 31, .tmp 32]) rfl ?_); (try (refine gate_guard (by rfl) ?_; dsimp only)); at_builtin; refine Kd.R_append_rows (Kd.int .u64) (w0 := w) w.heap.size rfl (.tmp 31) (.tmp 32) 22 23 (.int .u64 0) 8 rfl Try.underlying22 info23 rfl (by decide) (by omega) v244 y243 l0 _ _ _ (fun k_ => (w.heap.size ≤ k_)) (fun _ => False) rfl rfl ?aO ?aR (fun _ _ h => h) (fun _ h => h.elim) ?aF ?aB ?aS ?aL ?_; (case aR => repeat (first | exact (Kd.V_reads' HO_0.out).2.2 | (with_reducible refine Kd.C_alloc ?_ _) | (with_reducible refine Kd.C_drewN ?_ _) | (with_reducible refine Kd.C_drew ?_))); (case aB => exact (by repeat (first | (with_reducible first | exact HB.out | apply below_alloc | apply pw_below_drewN | apply below_drew1) | exact HB.out))); (case aF => exact (fun k_ hk => (Nat.le_trans (below_size (by repeat (first | (with_reducible first | exact HB.out | apply below_alloc | apply pw_below_drewN | apply below_drew1) | exact HB.out))) hk))); (case aO => exact (by (with_reducible repeat (first | apply Kd.R_alloc | apply Kd.R_drewN | apply Kd.R_drew)); exact Kd.R_mono HO245.out (fun _ hk => hk.1))); (case aS => exact (below_size (by repeat (first | (with_reducible first | exact HB.out | apply below_alloc | apply pw_below_drewN | apply below_drew1) | exact HB.out)))); (case aL => have := LMc9.out; omega); intro v247 w13 ho hb hg hat; rw [← Ny246.out] at ho; have n0_ := Aside0.mk (Kd.V_afterv (ok := (fun k_ => (P0_ k_ ∨ w.heap.size ≤ k_))) (by (with_reducible repeat (first | apply Kd.V_alloc | apply Kd.V_drewN | apply Kd.V_drew)); exact HO_0.out) hg hat); have n1_ := Aside0.mk (hb); have n2_ := Aside0.mk (ho); clear HO_0; clear HB; clear HO245; have HO_0 := n0_; have HB := n1_; have HO248 := n2_; clear n0_ n1_ n2_; clear ho hb hg hat) | ((with_reducible refine gate_builtin (b := .append) (xs := #[.tmp 33, .tmp 34]) rfl ?_); (try (refine gate_guard (by rfl) ?_; dsimp only)); at_builtin; refine Kd.R_append_rows (Kd.int .u64) (w0 := w) w.heap.size rfl (.tmp 33) (.tmp 34) 22 23 (.int .u64 0) 8 rfl Try.underlying22 info23 rfl (by decide) (by omega) v247 y246 l1 _ _ _ (fun k_ => (w.heap.size ≤ k_)) (fun _ => False) rfl rfl ?aO ?aR (fun _ _ h => h) (fun _ h => h.elim) ?aF ?aB ?aS ?aL ?_; (case aR => repeat (first | exact (Kd.C_below HR1.out HB.out) | (with_reducible refine Kd.C_alloc ?_ _) | (with_reducible refine Kd.C_drewN ?_ _) | (with_reducible refine Kd.C_drew ?_))); (case aB => exact (by repeat (first | (with_reducible first | exact HB.out | apply below_alloc | apply pw_below_drewN | apply below_drew1) | exact HB.out))); (case aF => exact (fun k_ hk => (Nat.le_trans (below_size (by repeat (first | (with_reducible first | exact HB.out | apply below_alloc | apply pw_below_drewN | apply below_drew1) | exact HB.out))) hk))); (case aO => exact (by (with_reducible repeat (first | apply Kd.R_alloc | apply Kd.R_drewN | apply Kd.R_drew)); exact HO248.out)); (case aS => exact (below_size (by repeat (first | (with_reducible first | exact HB.out | apply below_alloc | apply pw_below_drewN | apply below_drew1) | exact HB.out)))); (case aL => have := LMc10.out; omega); intro v250 w14 ho hb hg hat; rw [← Ny249.out] at ho; have n0_ := Aside0.mk (Kd.V_afterv (ok := (fun k_ => (P0_ k_ ∨ w.heap.size ≤ k_))) (by (with_reducible repeat (first | apply Kd.V_alloc | apply Kd.V_drewN | apply Kd.V_drew)); exact HO_0.out) hg hat); have n1_ := Aside0.mk (hb); have n2_ := Aside0.mk (ho); clear HO_0; clear HB; clear HO248; have HO_0 := n0_; have HB := n1_; have HO251 := n2_; clear n0_ n1_ n2_; clear ho hb hg hat; obtain ⟨Ao15, co15, eo15⟩ := Kd.R_slice HO251.out; subst eo15) | ((with_reducible refine gate_dst (N := 7) rfl ?_); (try (refine gate_guard (by rfl) ?_; dsimp only)); refine box_event ?hg (N := 7) ?hd (cs := #[.slice none 0 0, .int .i64 0]) (t := 28) ?hr ?_; (case hd => rfl); (case hg => rfl); (case hr => first | (go_simp; done) | (go_simp; rfl)); intro gb252 hg w16 hbox hb; have n0_ := Aside0.mk (Kd.V_below (Kd.V_elderB (by (with_reducible repeat (first | apply Kd.V_alloc | apply Kd.V_drewN | apply Kd.V_drew)); exact HO_0.out) gb252 (Nat.le_of_eq hg.symm)) hb); have n1_ := Aside0.mk (Kd.R_below (by (with_reducible repeat (first | apply Kd.R_alloc | apply Kd.R_drewN | apply Kd.R_drew)); exact HO251.out) hb); have n2_ := Aside0.mk (below_step (by repeat (first | (with_reducible first | exact HB.out | apply below_alloc | apply pw_below_drewN | apply below_drew1) | exact HB.out)) hb); have n3_ := Aside0.mk (hbox); have n4_ := Aside0.mk ((by rw [hg]; exact (below_size (by repeat (first | (with_reducible first | exact HB.out | apply below_alloc | apply pw_below_drewN | apply below_drew1) | exact HB.out))) : w.heap.size ≤ gb252)); have n5_ := Aside0.mk ((by rw [hg]; exact (below_size (by repeat (first | (with_reducible first | exact HB.out | apply below_alloc | apply pw_below_drewN | apply below_drew1) | exact HB.out))) : w.heap.size ≤ gb252)); clear HO_0; clear HO251; clear HB; have HO_0 := n0_; have HO251 := n1_; have HB := n2_; have BK252 := n3_; have GW252 := n4_; have GE252 := n5_; clear n0_ n1_ n2_ n3_ n4_ n5_; clear hb hbox hg) | ((with_reducible refine gate_dst (N := 8) rfl ?_); (try (refine gate_guard (by rfl) ?_; dsimp only)); refine box_event ?hg (N := 8) ?hd (cs := #[.slice none 0 0, .int .i64 0]) (t := 28) ?hr ?_; (case hd => rfl); (case hg => rfl); (case hr => first | (go_simp; done) | (go_simp; rfl)); intro gb253 hg w17 hbox hb; have n0_ := Aside0.mk (Kd.V_below (Kd.V_elderB (by (with_reducible repeat (first | apply Kd.V_alloc | apply Kd.V_drewN | apply Kd.V_drew)); exact HO_0.out) gb253 (Nat.le_of_eq hg.symm)) hb); have n1_ := Aside0.mk (Kd.R_below (by (with_reducible repeat (first | apply Kd.R_alloc | apply Kd.R_drewN | apply Kd.R_drew)); exact HO251.out) hb); have n2_ := Aside0.mk (blk_below (g := gb252) (o := .cells #[.slice none 0 0, .int .i64 0] 28 (0, 0)) (by (with_reducible repeat (first | refine blk_drewN ?_ _ | refine blk_drew ?_ | refine blk_alloc ?_ _)); exact BK252.out) hb); have n3_ := Aside0.mk (below_step (by repeat (first | (with_reducible first | exact HB.out | apply below_alloc | apply pw_below_drewN | apply below_drew1 | refine below_set ?_ GE252.out) | exact HB.out)) hb); have n4_ := Aside0.mk (hbox); have n5_ := Aside0.mk ((by rw [hg]; exact (below_size (by repeat (first | (with_reducible first | exact HB.out | apply below_alloc | apply pw_below_drewN | apply below_drew1 | refine below_set ?_ GE252.out) | exact HB.out))) : w.heap.size ≤ gb253)); have n6_ := Aside0.mk ((by rw [hg]; exact (below_size (by repeat (first | (with_reducible first | exact HB.out | apply below_alloc | apply pw_below_drewN | apply below_drew1 | refine below_set ?_ GE252.out) | exact HB.out))) : w.heap.size ≤ gb253)); have n7_ := Aside0.mk ((by rw [hg]; exact Nat.ne_of_lt (blk_lt (g := gb252) (o := .cells #[.slice none 0 0, .int .i64 0] 28 (0, 0)) (by (with_reducible repeat (first | refine blk_drewN ?_ _ | refine blk_drew ?_ | refine blk_alloc ?_ _)); exact BK252.out)) : gb252 ≠ gb253)); have n8_ := Aside0.mk ((by rw [hg]; exact Nat.ne_of_gt (blk_lt (g := gb252) (o := .cells #[.slice none 0 0, .int .i64 0] 28 (0, 0)) (by (with_reducible repeat (first | refine blk_drewN ?_ _ | refine blk_drew ?_ | refine blk_alloc ?_ _)); exact BK252.out)) : gb253 ≠ gb252)); clear HO_0; clear HO251; clear BK252; clear HB; have HO_0 := n0_; have HO251 := n1_; have BK252 := n2_; have HB := n3_; have BK253 := n4_; have GW253 := n5_; have GE253 := n6_; have NB252_253 := n7_; have NB253_252 := n8_; clear n0_ n1_ n2_ n3_ n4_ n5_ n6_ n7_ n8_; clear hb hbox hg; have hnb18 := NB252_253.out; have hnc18 := NB253_252.out; have hcz19_0 : w17.cell? ⟨gb252, 0, none⟩ = some (.slice none 0 0) := (blk_cell BK252.out 0).trans rfl; have hcz19_1 : w17.cell? ⟨gb252, 1, none⟩ = some (.int .i64 0) := (blk_cell BK252.out 1).trans rfl; have hfz19_0 := blk_frozen BK252.out 0; have hfz19_1 := blk_frozen BK252.out 1; have hcz20_0 : w17.cell? ⟨gb253, 0, none⟩ = some (.slice none 0 0) := (blk_cell BK253.out 0).trans rfl; have hcz20_1 : w17.cell? ⟨gb253, 1, none⟩ = some (.int .i64 0) := (blk_cell BK253.out 1).trans rfl; have hfz20_0 := blk_frozen BK253.out 0; have hfz20_1 := blk_frozen BK253.out 1))
            go_loopg [39] kj3 (fun kq v39 w' => ∃ (x39_2 : Int) (x253000_2 : List Int) (x253001_2 : Int) (x254000_2 : List Int) (x254001_2 : Int) (u253000 : Value) (u254000 : Value), v39 = .int .i64 x39_2 ∧ Aside0 (samphirelaw07_DrawOn.l0 kq l2 (l2.length : Int) x39_2 x253000_2 x253001_2 x254000_2 x254001_2 = some r) ∧ Aside0 (kq ≤ kj3) ∧ Aside0 (Kd.V (Kd.int .u64) 23 w' w.heap.size (fun k_ => (P0_ k_ ∨ w.heap.size ≤ k_) ∧ k_ ≠ gb252 ∧ k_ ≠ gb253) u253000 x253000_2) ∧ Aside0 (Kd.V (Kd.int .u64) 23 w' w.heap.size (fun k_ => (P0_ k_ ∨ w.heap.size ≤ k_) ∧ k_ ≠ gb252 ∧ k_ ≠ gb253) u254000 x254000_2) ∧ Aside0 (w'.heap[gb252]? = some (.cells #[u253000, .int .i64 x253001_2] 28 (0, 0))) ∧ Aside0 (w'.heap[gb253]? = some (.cells #[u254000, .int .i64 x254001_2] 28 (0, 0))) ∧ Aside0 (Below w.heap.size w w'))
            case atStart => exact ⟨(0), (l0), (0), (y249), (0), (.slice A0 l0.length c0), (.slice Ao15 y249.length co15), (by first | rfl | (simp; done) | (simp [*]; done)), H', ⟨Nat.le_refl _⟩, ⟨by (with_reducible repeat (first | apply Kd.V_alloc | apply Kd.V_drewN | apply Kd.V_drew)); exact Kd.V_mono (Kd.V_far (p := ⟨gb253, 1, none⟩) (Kd.V_far (p := ⟨gb253, 0, none⟩) (Kd.V_far (p := ⟨gb252, 1, none⟩) (Kd.V_far (p := ⟨gb252, 0, none⟩) (Kd.V_mono (Kd.V_mono HO_0.out (fun k_ hk => (⟨hk, hk.1.2⟩ : _ ∧ k_ ≠ gb252))) (fun k_ hk => (⟨hk, hk.1.2⟩ : _ ∧ k_ ≠ gb253))) (fun _ hk => hk.1.2) (.slice A0 l0.length c0)) (fun _ hk => hk.1.2) (.int .i64 0)) (fun _ hk => hk.2) (.slice Ao15 y249.length co15)) (fun _ hk => hk.2) (.int .i64 0)) (fun _ hk => ⟨hk.1.1.1.1.1, ⟨hk.1.1.1.2, hk.1.1.2⟩⟩)⟩, ⟨Kd.V_mono (Kd.R_V (ok := fun k_ => w.heap.size ≤ k_ ∧ k_ ≠ gb252 ∧ k_ ≠ gb253) (by (with_reducible repeat (first | apply Kd.R_alloc | apply Kd.R_drewN | apply Kd.R_drew)); exact Kd.R_mono (Kd.R_far (p := ⟨gb253, 1, none⟩) (Kd.R_far (p := ⟨gb253, 0, none⟩) (Kd.R_far (p := ⟨gb252, 1, none⟩) (Kd.R_far (p := ⟨gb252, 0, none⟩) (Kd.R_types (Kd.R_types (Kd.R_types (Kd.R_types HO251.out BK252.out (by decide)) BK253.out (by decide)) BK252.out (by decide)) BK253.out (by decide)) (fun _ hk => hk.1.2) (.slice A0 l0.length c0)) (fun _ hk => hk.1.2) (.int .i64 0)) (fun _ hk => hk.2) (.slice Ao15 y249.length co15)) (fun _ hk => hk.2) (.int .i64 0)) (fun _ hk => ⟨hk.1.1.1.1, ⟨hk.1.1.1.2, hk.1.1.2⟩⟩))) (fun k_ hk => by first | exact ⟨(.inr (hk.1)), hk.2⟩ | exact (.inr (hk)))⟩, ⟨by (with_reducible repeat (first | refine blk_drewN ?_ _ | refine blk_drew ?_ | refine blk_alloc ?_ _)); refine blk_far ?_ NB252_253.out _; (with_reducible repeat (first | refine blk_drewN ?_ _ | refine blk_drew ?_ | refine blk_alloc ?_ _)); refine blk_far ?_ NB252_253.out _; (with_reducible repeat (first | refine blk_drewN ?_ _ | refine blk_drew ?_ | refine blk_alloc ?_ _)); refine blk_put (cs := #[.slice A0 l0.length c0, .int .i64 0]) ?_ 1 _ rfl; (with_reducible repeat (first | refine blk_drewN ?_ _ | refine blk_drew ?_ | refine blk_alloc ?_ _)); refine blk_put (cs := #[.slice none 0 0, .int .i64 0]) ?_ 0 _ rfl; (with_reducible repeat (first | refine blk_drewN ?_ _ | refine blk_drew ?_ | refine blk_alloc ?_ _)); exact BK252.out⟩, ⟨by (with_reducible repeat (first | refine blk_drewN ?_ _ | refine blk_drew ?_ | refine blk_alloc ?_ _)); refine blk_put (cs := #[.slice Ao15 y249.length co15, .int .i64 0]) ?_ 1 _ rfl; (with_reducible repeat (first | refine blk_drewN ?_ _ | refine blk_drew ?_ | refine blk_alloc ?_ _)); refine blk_put (cs := #[.slice none 0 0, .int .i64 0]) ?_ 0 _ rfl; (with_reducible repeat (first | refine blk_drewN ?_ _ | refine blk_drew ?_ | refine blk_alloc ?_ _)); refine blk_far ?_ NB253_252.out _; (with_reducible repeat (first | refine blk_drewN ?_ _ | refine blk_drew ?_ | refine blk_alloc ?_ _)); refine blk_far ?_ NB253_252.out _; (with_reducible repeat (first | refine blk_drewN ?_ _ | refine blk_drew ?_ | refine blk_alloc ?_ _)); exact BK253.out⟩, ⟨by repeat (first | (with_reducible first | exact HB.out | apply below_alloc | apply pw_below_drewN | apply below_drew1 | refine below_set ?_ GE252.out | refine below_set ?_ GE253.out) | exact HB.out)⟩⟩
            case round =>
              clear H'
              try clear c1
              try clear c2
              try clear p2
              try clear c5
              try clear c5b0
              try clear c6
              try clear p6
              try clear c9
              try clear c10
              try clear c18
              try clear hcz19_0
              try clear hcz19_1
              try clear hcz20_0
              try clear hcz20_1
              try clear hfz19_0
              try clear hfz19_1
              try clear hfz20_0
              try clear hfz20_1
              try clear p2
              obtain ⟨x39_2, x253000_2, x253001_2, x254000_2, x254001_2, u253000, u254000, rfl, HA, HK2, HO_253000, HO_254000, BK252, BK253, HB⟩ := hrel
              cases gk with
              | zero => exact absurd HA.out (by simp [samphirelaw07_DrawOn.l0])
              | succ k2 =>
                have H := HA.out
                clear HA
                simp only [samphirelaw07_DrawOn.l0] at H
                by_cases c21 : x39_2 < (l2.length : Int)
                · rw [if_pos c21] at H
                  have c21b0 : decide (x39_2 < (l2.length : Int)) = true := decide_eq_true c21
                  clear c21
                  by_cases c22 : 0 ≤ x39_2
                  · rw [if_pos c22] at H
                    have c22b0 : decide (0 ≤ x39_2) = true := decide_eq_true c22
                    clear c22
                    by_cases c23 : x39_2 < (l2.length : Int)
                    · rw [if_pos c23] at H
                      have c23b0 : decide (x39_2 < (l2.length : Int)) = true := decide_eq_true c23
                      clear c23
                      replace H := Option.bind_eq_some_iff.mp H
                      obtain ⟨⟨t256, t257, t260, t261⟩, A240, H⟩ := H
                      replace H : ((draw_Below.f k2 x254000_2 x254001_2 (rd l2 x39_2)).bind fun bt263 => (if t261 = 0 then (if bt263.2.2.2 = 0 then (if t256 = bt263.1 then (if t260 = bt263.2.2.1 then (if t261 = 7 then (samphirelaw07_DrawOn.j2 k2 (rd l2 x39_2) t256 t261 l2 (l2.length : Int) x39_2 (bt263.2.2.2 != t261) x253000_2 x253001_2 t257 t260 bt263.2.1 bt263.2.2.1) else (samphirelaw07_DrawOn.j2 k2 (rd l2 x39_2) t256 t261 l2 (l2.length : Int) x39_2 false x253000_2 x253001_2 t257 t260 bt263.2.1 bt263.2.2.1)) else (samphirelaw07_DrawOn.j2 k2 (rd l2 x39_2) t256 t261 l2 (l2.length : Int) x39_2 true x253000_2 x253001_2 t257 t260 bt263.2.1 bt263.2.2.1)) else (samphirelaw07_DrawOn.j2 k2 (rd l2 x39_2) t256 t261 l2 (l2.length : Int) x39_2 true x253000_2 x253001_2 t257 t260 bt263.2.1 bt263.2.2.1)) else (samphirelaw07_DrawOn.j2 k2 (rd l2 x39_2) t256 t261 l2 (l2.length : Int) x39_2 true x253000_2 x253001_2 t257 t260 bt263.2.1 bt263.2.2.1)) else (if t261 = 7 then (samphirelaw07_DrawOn.j2 k2 (rd l2 x39_2) t256 t261 l2 (l2.length : Int) x39_2 (bt263.2.2.2 != t261) x253000_2 x253001_2 t257 t260 bt263.2.1 bt263.2.2.1) else (samphirelaw07_DrawOn.j2 k2 (rd l2 x39_2) t256 t261 l2 (l2.length : Int) x39_2 false x253000_2 x253001_2 t257 t260 bt263.2.1 bt263.2.2.1)))) = some r := H
                      have A24 := Aside0.mk A240
                      clear A240
                      replace H := Option.bind_eq_some_iff.mp H
                      obtain ⟨⟨t263, t264, t267, t268⟩, A250, H⟩ := H
                      replace H : (if t261 = 0 then (if t268 = 0 then (if t256 = t263 then (if t260 = t267 then (if t261 = 7 then (samphirelaw07_DrawOn.j2 k2 (rd l2 x39_2) t256 t261 l2 (l2.length : Int) x39_2 (t268 != t261) x253000_2 x253001_2 t257 t260 t264 t267) else (samphirelaw07_DrawOn.j2 k2 (rd l2 x39_2) t256 t261 l2 (l2.length : Int) x39_2 false x253000_2 x253001_2 t257 t260 t264 t267)) else (samphirelaw07_DrawOn.j2 k2 (rd l2 x39_2) t256 t261 l2 (l2.length : Int) x39_2 true x253000_2 x253001_2 t257 t260 t264 t267)) else (samphirelaw07_DrawOn.j2 k2 (rd l2 x39_2) t256 t261 l2 (l2.length : Int) x39_2 true x253000_2 x253001_2 t257 t260 t264 t267)) else (samphirelaw07_DrawOn.j2 k2 (rd l2 x39_2) t256 t261 l2 (l2.length : Int) x39_2 true x253000_2 x253001_2 t257 t260 t264 t267)) else (if t261 = 7 then (samphirelaw07_DrawOn.j2 k2 (rd l2 x39_2) t256 t261 l2 (l2.length : Int) x39_2 (t268 != t261) x253000_2 x253001_2 t257 t260 t264 t267) else (samphirelaw07_DrawOn.j2 k2 (rd l2 x39_2) t256 t261 l2 (l2.length : Int) x39_2 false x253000_2 x253001_2 t257 t260 t264 t267))) = some r := H
                      have A25 := Aside0.mk A250
                      clear A250
                      have HC26 := Aside0.mk H
                      clear H
                      have p255 : 0 ≤ (x39_2 : Int) := of_decide_eq_true (by first | (with_reducible assumption) | assumption)
                      have q255 : x39_2 < (l2.length : Int) := of_decide_eq_true (by first | (with_reducible assumption) | assumption)
                      obtain ⟨ad255, e255, hx255_0⟩ := Kd.at_int HR2.out x39_2 p255 q255
                      cases e255
                      replace hx255_0 := (HB.out.cell (World.block_lt_of_cell? w _ hx255_0)).trans hx255_0
                      replace p255 := eq_true p255
                      replace q255 := eq_true q255
                      have hnb27 := NB252_253.out
                      have hnc27 := NB253_252.out
                      have hcz28_0 : wr.cell? ⟨gb252, 0, none⟩ = some (u253000) := (blk_cell BK252.out 0).trans rfl
                      have hcz28_1 : wr.cell? ⟨gb252, 1, none⟩ = some (.int .i64 x253001_2) := (blk_cell BK252.out 1).trans rfl
                      have hfz28_0 := blk_frozen BK252.out 0
                      have hfz28_1 := blk_frozen BK252.out 1
                      obtain ⟨Ao29, co29, eo29⟩ := Kd.V_slice HO_253000.out
                      subst eo29
                      go_upto_region 9 with (first | ((with_reducible refine gate_callee (f := 10) rfl ?_); refine goesL_ (some 46) rfl rfl Try.func10 (by kernel_rfl) rfl #[.agg #[.slice Ao29 x253000_2.length co29, .int .i64 x253001_2], .int .u64 (rd l2 x39_2)] rfl (by (try simp only [List.map_toArray, List.map_cons, List.map_nil]); first | done | rfl | (simp only [List.length_drop, List.length_take]; rfl)) ?_; (with_reducible refine (draw_Below.calls k2 (fun k_ => ((P0_ k_ ∨ w.heap.size ≤ k_) ∧ (k_ ≠ gb252 ∧ k_ ≠ gb253))) _ _ x253000_2 x253001_2 (rd l2 x39_2) t256 t257 t260 t261 _ ?side1 A24.out).mono ?_); (case side1 => exact HO_253000.out); rintro e w30 ⟨v258, rfl, ho0, hb⟩; refine ⟨_, rfl, ?_⟩; have n0_ := Aside0.mk (Kd.V_below (by (with_reducible repeat (first | apply Kd.V_alloc | apply Kd.V_drewN | apply Kd.V_drew)); exact HO_253000.out) hb); have n1_ := Aside0.mk (Kd.V_below (by (with_reducible repeat (first | apply Kd.V_alloc | apply Kd.V_drewN | apply Kd.V_drew)); exact HO_254000.out) hb); have n2_ := Aside0.mk (Kd.V_lower (Kd.V_mono (ok' := fun k_ => (P0_ k_ ∨ w.heap.size ≤ k_) ∧ k_ ≠ gb252 ∧ k_ ≠ gb253) ho0 (fun k_ hk_ => ⟨Or.elim hk_ (fun hs_ => hs_.1) (fun hn_ => (.inr (Nat.le_trans (below_size (by repeat (first | (with_reducible first | exact HB.out | apply below_alloc | apply pw_below_drewN | apply below_drew1 | refine below_set ?_ GE252.out | refine below_set ?_ GE253.out) | exact HB.out))) hn_))), Or.elim hk_ (fun hs_ => hs_.2.1) (fun hn_ => (Kd.freshB (g := gb252) (o := .cells #[.slice Ao29 x253000_2.length co29, .int .i64 x253001_2] 28 (0, 0)) (by (with_reducible repeat (first | refine blk_drewN ?_ _ | refine blk_drew ?_ | refine blk_alloc ?_ _)); exact BK252.out) k_ hn_)), Or.elim hk_ (fun hs_ => hs_.2.2) (fun hn_ => (Kd.freshB (g := gb253) (o := .cells #[u254000, .int .i64 x254001_2] 28 (0, 0)) (by (with_reducible repeat (first | refine blk_drewN ?_ _ | refine blk_drew ?_ | refine blk_alloc ?_ _)); exact BK253.out) k_ hn_))⟩)) (below_size (by repeat (first | (with_reducible first | exact HB.out | apply below_alloc | apply pw_below_drewN | apply below_drew1 | refine below_set ?_ GE252.out | refine below_set ?_ GE253.out) | exact HB.out)))); have n3_ := Aside0.mk (blk_below (g := gb252) (o := .cells #[.slice Ao29 x253000_2.length co29, .int .i64 x253001_2] 28 (0, 0)) (by (with_reducible repeat (first | refine blk_drewN ?_ _ | refine blk_drew ?_ | refine blk_alloc ?_ _)); exact BK252.out) hb); have n4_ := Aside0.mk (blk_below (g := gb253) (o := .cells #[u254000, .int .i64 x254001_2] 28 (0, 0)) (by (with_reducible repeat (first | refine blk_drewN ?_ _ | refine blk_drew ?_ | refine blk_alloc ?_ _)); exact BK253.out) hb); have n5_ := Aside0.mk (below_step (by repeat (first | (with_reducible first | exact HB.out | apply below_alloc | apply pw_below_drewN | apply below_drew1 | refine below_set ?_ GE252.out | refine below_set ?_ GE253.out) | exact HB.out)) hb); clear HO_253000; clear HO_254000; clear BK252; clear BK253; clear HB; have HO_253000 := n0_; have HO_254000 := n1_; have HO259 := n2_; have BK252 := n3_; have BK253 := n4_; have HB := n5_; clear n0_ n1_ n2_ n3_ n4_ n5_; (try clear hb); (try clear hb2); (try clear hk); (try clear hi); (try clear ho0)) | ((with_reducible refine gate_dst (N := 12) rfl ?_); (try (refine gate_guard (by rfl) ?_; dsimp only)); refine box_event ?hg (N := 12) ?hd (cs := #[.slice none 0 0, .int .i64 0]) (t := 28) ?hr ?_; (case hd => rfl); (case hg => rfl); (case hr => first | (go_simp; done) | (go_simp; rfl)); intro gb262 hg w31 hbox hb; have n0_ := Aside0.mk (Kd.V_below (Kd.V_elderB (by (with_reducible repeat (first | apply Kd.V_alloc | apply Kd.V_drewN | apply Kd.V_drew)); exact HO_253000.out) gb262 (Nat.le_of_eq hg.symm)) hb); have n1_ := Aside0.mk (Kd.V_below (Kd.V_elderB (by (with_reducible repeat (first | apply Kd.V_alloc | apply Kd.V_drewN | apply Kd.V_drew)); exact HO_254000.out) gb262 (Nat.le_of_eq hg.symm)) hb); have n2_ := Aside0.mk (Kd.V_below (Kd.V_elderB (by (with_reducible repeat (first | apply Kd.V_alloc | apply Kd.V_drewN | apply Kd.V_drew)); exact HO259.out) gb262 (Nat.le_of_eq hg.symm)) hb); have n3_ := Aside0.mk (blk_below (g := gb252) (o := .cells #[.slice Ao29 x253000_2.length co29, .int .i64 x253001_2] 28 (0, 0)) (by (with_reducible repeat (first | refine blk_drewN ?_ _ | refine blk_drew ?_ | refine blk_alloc ?_ _)); exact BK252.out) hb); have n4_ := Aside0.mk (blk_below (g := gb253) (o := .cells #[u254000, .int .i64 x254001_2] 28 (0, 0)) (by (with_reducible repeat (first | refine blk_drewN ?_ _ | refine blk_drew ?_ | refine blk_alloc ?_ _)); exact BK253.out) hb); have n5_ := Aside0.mk (below_step (by repeat (first | (with_reducible first | exact HB.out | apply below_alloc | apply pw_below_drewN | apply below_drew1 | refine below_set ?_ GE252.out | refine below_set ?_ GE253.out) | exact HB.out)) hb); have n6_ := Aside0.mk (hbox); have n7_ := Aside0.mk ((by rw [hg]; exact (below_size (by repeat (first | (with_reducible first | exact HB.out | apply below_alloc | apply pw_below_drewN | apply below_drew1 | refine below_set ?_ GE252.out | refine below_set ?_ GE253.out) | exact HB.out))) : w.heap.size ≤ gb262)); have n8_ := Aside0.mk ((by rw [hg]; exact (below_size (by repeat (first | (with_reducible first | exact HB.out | apply below_alloc | apply pw_below_drewN | apply below_drew1 | refine below_set ?_ GE252.out | refine below_set ?_ GE253.out) | exact HB.out))) : w.heap.size ≤ gb262)); have n9_ := Aside0.mk ((by rw [hg]; exact Nat.ne_of_lt (blk_lt (g := gb252) (o := .cells #[.slice Ao29 x253000_2.length co29, .int .i64 x253001_2] 28 (0, 0)) (by (with_reducible repeat (first | refine blk_drewN ?_ _ | refine blk_drew ?_ | refine blk_alloc ?_ _)); exact BK252.out)) : gb252 ≠ gb262)); have n10_ := Aside0.mk ((by rw [hg]; exact Nat.ne_of_gt (blk_lt (g := gb252) (o := .cells #[.slice Ao29 x253000_2.length co29, .int .i64 x253001_2] 28 (0, 0)) (by (with_reducible repeat (first | refine blk_drewN ?_ _ | refine blk_drew ?_ | refine blk_alloc ?_ _)); exact BK252.out)) : gb262 ≠ gb252)); have n11_ := Aside0.mk ((by rw [hg]; exact Nat.ne_of_lt (blk_lt (g := gb253) (o := .cells #[u254000, .int .i64 x254001_2] 28 (0, 0)) (by (with_reducible repeat (first | refine blk_drewN ?_ _ | refine blk_drew ?_ | refine blk_alloc ?_ _)); exact BK253.out)) : gb253 ≠ gb262)); have n12_ := Aside0.mk ((by rw [hg]; exact Nat.ne_of_gt (blk_lt (g := gb253) (o := .cells #[u254000, .int .i64 x254001_2] 28 (0, 0)) (by (with_reducible repeat (first | refine blk_drewN ?_ _ | refine blk_drew ?_ | refine blk_alloc ?_ _)); exact BK253.out)) : gb262 ≠ gb253)); clear HO_253000; clear HO_254000; clear HO259; clear BK252; clear BK253; clear HB; have HO_253000 := n0_; have HO_254000 := n1_; have HO259 := n2_; have BK252 := n3_; have BK253 := n4_; have HB := n5_; have BK262 := n6_; have GW262 := n7_; have GE262 := n8_; have NB252_262 := n9_; have NB262_252 := n10_; have NB253_262 := n11_; have NB262_253 := n12_; clear n0_ n1_ n2_ n3_ n4_ n5_ n6_ n7_ n8_ n9_ n10_ n11_ n12_; clear hb hbox hg; obtain ⟨Ao32, co32, eo32⟩ := Kd.V_slice HO259.out; subst eo32; have hnb33 := NB262_252.out; have hnc33 := NB252_262.out; have hnb34 := NB262_253.out; have hnc34 := NB253_262.out; have hcz35_0 : w31.cell? ⟨gb262, 0, none⟩ = some (.slice none 0 0) := (blk_cell BK262.out 0).trans rfl; have hcz35_1 : w31.cell? ⟨gb262, 1, none⟩ = some (.int .i64 0) := (blk_cell BK262.out 1).trans rfl; have hfz35_0 := blk_frozen BK262.out 0; have hfz35_1 := blk_frozen BK262.out 1) | ((with_reducible refine gate_store (t := 28) (p := 12) rfl ?_); refine store_event (t := 28) (p := 12) (v := ?vo_w36) (w1 := ((w31.setCell ⟨gb262, 0, none⟩ (.slice Ao32 t257.length co32)).setCell ⟨gb262, 1, none⟩ (.int .i64 t260))) ?hg ?ho ?hn ?hr ?_; (case ho => rfl); (case hg => rfl); (case hn => rfl); (case hr => first | (go_simp; done) | (go_simp; rfl)); intro w36 hw; have n0_ : Aside0 (Kd.V (Kd.int .u64) 23 w36 w.heap.size (fun k_ => (P0_ k_ ∨ w.heap.size ≤ k_) ∧ k_ ≠ gb252 ∧ k_ ≠ gb253 ∧ k_ ≠ gb262) (.slice Ao29 x253000_2.length co29) x253000_2) := ⟨(by rw [hw]; exact (by (with_reducible repeat (first | apply Kd.V_alloc | apply Kd.V_drewN | apply Kd.V_drew)); exact Kd.V_mono (Kd.V_far (p := ⟨gb262, 1, none⟩) (Kd.V_far (p := ⟨gb262, 0, none⟩) (Kd.V_mono HO_253000.out (fun k_ hk => (⟨hk, hk.2⟩ : _ ∧ k_ ≠ gb262))) (fun _ hk => hk.2) (.slice Ao32 t257.length co32)) (fun _ hk => hk.2) (.int .i64 t260)) (fun _ hk => ⟨hk.1.1.1, ⟨hk.1.1.2.1, ⟨hk.1.1.2.2, hk.1.2⟩⟩⟩)))⟩; have n1_ : Aside0 (Kd.V (Kd.int .u64) 23 w36 w.heap.size (fun k_ => (P0_ k_ ∨ w.heap.size ≤ k_) ∧ k_ ≠ gb252 ∧ k_ ≠ gb253 ∧ k_ ≠ gb262) u254000 x254000_2) := ⟨(by rw [hw]; exact (by (with_reducible repeat (first | apply Kd.V_alloc | apply Kd.V_drewN | apply Kd.V_drew)); exact Kd.V_mono (Kd.V_far (p := ⟨gb262, 1, none⟩) (Kd.V_far (p := ⟨gb262, 0, none⟩) (Kd.V_mono HO_254000.out (fun k_ hk => (⟨hk, hk.2⟩ : _ ∧ k_ ≠ gb262))) (fun _ hk => hk.2) (.slice Ao32 t257.length co32)) (fun _ hk => hk.2) (.int .i64 t260)) (fun _ hk => ⟨hk.1.1.1, ⟨hk.1.1.2.1, ⟨hk.1.1.2.2, hk.1.2⟩⟩⟩)))⟩; have n2_ : Aside0 (Kd.V (Kd.int .u64) 23 w36 w.heap.size (fun k_ => (P0_ k_ ∨ w.heap.size ≤ k_) ∧ k_ ≠ gb252 ∧ k_ ≠ gb253 ∧ k_ ≠ gb262) (.slice Ao32 t257.length co32) t257) := ⟨(by rw [hw]; exact (by (with_reducible repeat (first | apply Kd.V_alloc | apply Kd.V_drewN | apply Kd.V_drew)); exact Kd.V_mono (Kd.V_far (p := ⟨gb262, 1, none⟩) (Kd.V_far (p := ⟨gb262, 0, none⟩) (Kd.V_mono HO259.out (fun k_ hk => (⟨hk, hk.2⟩ : _ ∧ k_ ≠ gb262))) (fun _ hk => hk.2) (.slice Ao32 t257.length co32)) (fun _ hk => hk.2) (.int .i64 t260)) (fun _ hk => ⟨hk.1.1.1, ⟨hk.1.1.2.1, ⟨hk.1.1.2.2, hk.1.2⟩⟩⟩)))⟩; have n3_ : Aside0 (w36.heap[gb252]? = some (.cells #[.slice Ao29 x253000_2.length co29, .int .i64 x253001_2] 28 (0, 0))) := ⟨(by rw [hw]; exact (by (with_reducible repeat (first | refine blk_drewN ?_ _ | refine blk_drew ?_ | refine blk_alloc ?_ _)); refine blk_far ?_ NB252_262.out _; (with_reducible repeat (first | refine blk_drewN ?_ _ | refine blk_drew ?_ | refine blk_alloc ?_ _)); refine blk_far ?_ NB252_262.out _; (with_reducible repeat (first | refine blk_drewN ?_ _ | refine blk_drew ?_ | refine blk_alloc ?_ _)); exact BK252.out))⟩; have n4_ : Aside0 (w36.heap[gb253]? = some (.cells #[u254000, .int .i64 x254001_2] 28 (0, 0))) := ⟨(by rw [hw]; exact (by (with_reducible repeat (first | refine blk_drewN ?_ _ | refine blk_drew ?_ | refine blk_alloc ?_ _)); refine blk_far ?_ NB253_262.out _; (with_reducible repeat (first | refine blk_drewN ?_ _ | refine blk_drew ?_ | refine blk_alloc ?_ _)); refine blk_far ?_ NB253_262.out _; (with_reducible repeat (first | refine blk_drewN ?_ _ | refine blk_drew ?_ | refine blk_alloc ?_ _)); exact BK253.out))⟩; have n5_ : Aside0 (w36.heap[gb262]? = some (.cells #[.slice Ao32 t257.length co32, .int .i64 t260] 28 (0, 0))) := ⟨(by rw [hw]; exact (by (with_reducible repeat (first | refine blk_drewN ?_ _ | refine blk_drew ?_ | refine blk_alloc ?_ _)); refine blk_put (cs := #[.slice Ao32 t257.length co32, .int .i64 0]) ?_ 1 _ rfl; (with_reducible repeat (first | refine blk_drewN ?_ _ | refine blk_drew ?_ | refine blk_alloc ?_ _)); refine blk_put (cs := #[.slice none 0 0, .int .i64 0]) ?_ 0 _ rfl; (with_reducible repeat (first | refine blk_drewN ?_ _ | refine blk_drew ?_ | refine blk_alloc ?_ _)); exact BK262.out))⟩; have n6_ : Aside0 (Below w.heap.size w w36) := ⟨(by rw [hw]; exact (by repeat (first | (with_reducible first | exact HB.out | apply below_alloc | apply pw_below_drewN | apply below_drew1 | refine below_set ?_ GE252.out | refine below_set ?_ GE253.out | refine below_set ?_ GE262.out) | exact HB.out)))⟩; clear hw; clear HO_253000; clear HO_254000; clear HO259; clear BK252; clear BK253; clear BK262; clear HB; have HO_253000 := n0_; have HO_254000 := n1_; have HO259 := n2_; have BK252 := n3_; have BK253 := n4_; have BK262 := n5_; have HB := n6_; clear n0_ n1_ n2_ n3_ n4_ n5_ n6_; have hcz37_0 : w36.cell? ⟨gb253, 0, none⟩ = some (u254000) := (blk_cell BK253.out 0).trans rfl; have hcz37_1 : w36.cell? ⟨gb253, 1, none⟩ = some (.int .i64 x254001_2) := (blk_cell BK253.out 1).trans rfl; have hfz37_0 := blk_frozen BK253.out 0; have hfz37_1 := blk_frozen BK253.out 1; obtain ⟨Ao38, co38, eo38⟩ := Kd.V_slice HO_254000.out; subst eo38) | ((with_reducible refine gate_callee (f := 10) rfl ?_); refine goesL_ (some 53) rfl rfl Try.func10 (by kernel_rfl) rfl #[.agg #[.slice Ao38 x254000_2.length co38, .int .i64 x254001_2], .int .u64 (rd l2 x39_2)] rfl (by (try simp only [List.map_toArray, List.map_cons, List.map_nil]); first | done | rfl | (simp only [List.length_drop, List.length_take]; rfl)) ?_; (with_reducible refine (draw_Below.calls k2 (fun k_ => ((P0_ k_ ∨ w.heap.size ≤ k_) ∧ (k_ ≠ gb252 ∧ (k_ ≠ gb253 ∧ k_ ≠ gb262)))) _ _ x254000_2 x254001_2 (rd l2 x39_2) t263 t264 t267 t268 _ ?side1 A25.out).mono ?_); (case side1 => exact HO_254000.out); rintro e w39 ⟨v265, rfl, ho0, hb⟩; refine ⟨_, rfl, ?_⟩; have n0_ := Aside0.mk (Kd.V_below (by (with_reducible repeat (first | apply Kd.V_alloc | apply Kd.V_drewN | apply Kd.V_drew)); exact HO_253000.out) hb); have n1_ := Aside0.mk (Kd.V_below (by (with_reducible repeat (first | apply Kd.V_alloc | apply Kd.V_drewN | apply Kd.V_drew)); exact HO_254000.out) hb); have n2_ := Aside0.mk (Kd.V_below (by (with_reducible repeat (first | apply Kd.V_alloc | apply Kd.V_drewN | apply Kd.V_drew)); exact HO259.out) hb); have n3_ := Aside0.mk (Kd.V_lower (Kd.V_mono (ok' := fun k_ => (P0_ k_ ∨ w.heap.size ≤ k_) ∧ k_ ≠ gb252 ∧ k_ ≠ gb253 ∧ k_ ≠ gb262) ho0 (fun k_ hk_ => ⟨Or.elim hk_ (fun hs_ => hs_.1) (fun hn_ => (.inr (Nat.le_trans (below_size (by repeat (first | (with_reducible first | exact HB.out | apply below_alloc | apply pw_below_drewN | apply below_drew1 | refine below_set ?_ GE252.out | refine below_set ?_ GE253.out | refine below_set ?_ GE262.out) | exact HB.out))) hn_))), Or.elim hk_ (fun hs_ => hs_.2.1) (fun hn_ => (Kd.freshB (g := gb252) (o := .cells #[.slice Ao29 x253000_2.length co29, .int .i64 x253001_2] 28 (0, 0)) (by (with_reducible repeat (first | refine blk_drewN ?_ _ | refine blk_drew ?_ | refine blk_alloc ?_ _)); exact BK252.out) k_ hn_)), Or.elim hk_ (fun hs_ => hs_.2.2.1) (fun hn_ => (Kd.freshB (g := gb253) (o := .cells #[.slice Ao38 x254000_2.length co38, .int .i64 x254001_2] 28 (0, 0)) (by (with_reducible repeat (first | refine blk_drewN ?_ _ | refine blk_drew ?_ | refine blk_alloc ?_ _)); exact BK253.out) k_ hn_)), Or.elim hk_ (fun hs_ => hs_.2.2.2) (fun hn_ => (Kd.freshB (g := gb262) (o := .cells #[.slice Ao32 t257.length co32, .int .i64 t260] 28 (0, 0)) (by (with_reducible repeat (first | refine blk_drewN ?_ _ | refine blk_drew ?_ | refine blk_alloc ?_ _)); exact BK262.out) k_ hn_))⟩)) (below_size (by repeat (first | (with_reducible first | exact HB.out | apply below_alloc | apply pw_below_drewN | apply below_drew1 | refine below_set ?_ GE252.out | refine below_set ?_ GE253.out | refine below_set ?_ GE262.out) | exact HB.out)))); have n4_ := Aside0.mk (blk_below (g := gb252) (o := .cells #[.slice Ao29 x253000_2.length co29, .int .i64 x253001_2] 28 (0, 0)) (by (with_reducible repeat (first | refine blk_drewN ?_ _ | refine blk_drew ?_ | refine blk_alloc ?_ _)); exact BK252.out) hb); have n5_ := Aside0.mk (blk_below (g := gb253) (o := .cells #[.slice Ao38 x254000_2.length co38, .int .i64 x254001_2] 28 (0, 0)) (by (with_reducible repeat (first | refine blk_drewN ?_ _ | refine blk_drew ?_ | refine blk_alloc ?_ _)); exact BK253.out) hb); have n6_ := Aside0.mk (blk_below (g := gb262) (o := .cells #[.slice Ao32 t257.length co32, .int .i64 t260] 28 (0, 0)) (by (with_reducible repeat (first | refine blk_drewN ?_ _ | refine blk_drew ?_ | refine blk_alloc ?_ _)); exact BK262.out) hb); have n7_ := Aside0.mk (below_step (by repeat (first | (with_reducible first | exact HB.out | apply below_alloc | apply pw_below_drewN | apply below_drew1 | refine below_set ?_ GE252.out | refine below_set ?_ GE253.out | refine below_set ?_ GE262.out) | exact HB.out)) hb); clear HO_253000; clear HO_254000; clear HO259; clear BK252; clear BK253; clear BK262; clear HB; have HO_253000 := n0_; have HO_254000 := n1_; have HO259 := n2_; have HO266 := n3_; have BK252 := n4_; have BK253 := n5_; have BK262 := n6_; have HB := n7_; clear n0_ n1_ n2_ n3_ n4_ n5_ n6_ n7_; (try clear hb); (try clear hb2); (try clear hk); (try clear hi); (try clear ho0)) | ((with_reducible refine gate_dst (N := 15) rfl ?_); (try (refine gate_guard (by rfl) ?_; dsimp only)); refine box_event ?hg (N := 15) ?hd (cs := #[.slice none 0 0, .int .i64 0]) (t := 28) ?hr ?_; (case hd => rfl); (case hg => rfl); (case hr => first | (go_simp; done) | (go_simp; rfl)); intro gb269 hg w40 hbox hb; have n0_ := Aside0.mk (Kd.V_below (Kd.V_elderB (by (with_reducible repeat (first | apply Kd.V_alloc | apply Kd.V_drewN | apply Kd.V_drew)); exact HO_253000.out) gb269 (Nat.le_of_eq hg.symm)) hb); have n1_ := Aside0.mk (Kd.V_below (Kd.V_elderB (by (with_reducible repeat (first | apply Kd.V_alloc | apply Kd.V_drewN | apply Kd.V_drew)); exact HO_254000.out) gb269 (Nat.le_of_eq hg.symm)) hb); have n2_ := Aside0.mk (Kd.V_below (Kd.V_elderB (by (with_reducible repeat (first | apply Kd.V_alloc | apply Kd.V_drewN | apply Kd.V_drew)); exact HO259.out) gb269 (Nat.le_of_eq hg.symm)) hb); have n3_ := Aside0.mk (Kd.V_below (Kd.V_elderB (by (with_reducible repeat (first | apply Kd.V_alloc | apply Kd.V_drewN | apply Kd.V_drew)); exact HO266.out) gb269 (Nat.le_of_eq hg.symm)) hb); have n4_ := Aside0.mk (blk_below (g := gb252) (o := .cells #[.slice Ao29 x253000_2.length co29, .int .i64 x253001_2] 28 (0, 0)) (by (with_reducible repeat (first | refine blk_drewN ?_ _ | refine blk_drew ?_ | refine blk_alloc ?_ _)); exact BK252.out) hb); have n5_ := Aside0.mk (blk_below (g := gb253) (o := .cells #[.slice Ao38 x254000_2.length co38, .int .i64 x254001_2] 28 (0, 0)) (by (with_reducible repeat (first | refine blk_drewN ?_ _ | refine blk_drew ?_ | refine blk_alloc ?_ _)); exact BK253.out) hb); have n6_ := Aside0.mk (blk_below (g := gb262) (o := .cells #[.slice Ao32 t257.length co32, .int .i64 t260] 28 (0, 0)) (by (with_reducible repeat (first | refine blk_drewN ?_ _ | refine blk_drew ?_ | refine blk_alloc ?_ _)); exact BK262.out) hb); have n7_ := Aside0.mk (below_step (by repeat (first | (with_reducible first | exact HB.out | apply below_alloc | apply pw_below_drewN | apply below_drew1 | refine below_set ?_ GE252.out | refine below_set ?_ GE253.out | refine below_set ?_ GE262.out) | exact HB.out)) hb); have n8_ := Aside0.mk (hbox); have n9_ := Aside0.mk ((by rw [hg]; exact (below_size (by repeat (first | (with_reducible first | exact HB.out | apply below_alloc | apply pw_below_drewN | apply below_drew1 | refine below_set ?_ GE252.out | refine below_set ?_ GE253.out | refine below_set ?_ GE262.out) | exact HB.out))) : w.heap.size ≤ gb269)); have n10_ := Aside0.mk ((by rw [hg]; exact (below_size (by repeat (first | (with_reducible first | exact HB.out | apply below_alloc | apply pw_below_drewN | apply below_drew1 | refine below_set ?_ GE252.out | refine below_set ?_ GE253.out | refine below_set ?_ GE262.out) | exact HB.out))) : w.heap.size ≤ gb269)); have n11_ := Aside0.mk ((by rw [hg]; exact Nat.ne_of_lt (blk_lt (g := gb252) (o := .cells #[.slice Ao29 x253000_2.length co29, .int .i64 x253001_2] 28 (0, 0)) (by (with_reducible repeat (first | refine blk_drewN ?_ _ | refine blk_drew ?_ | refine blk_alloc ?_ _)); exact BK252.out)) : gb252 ≠ gb269)); have n12_ := Aside0.mk ((by rw [hg]; exact Nat.ne_of_gt (blk_lt (g := gb252) (o := .cells #[.slice Ao29 x253000_2.length co29, .int .i64 x253001_2] 28 (0, 0)) (by (with_reducible repeat (first | refine blk_drewN ?_ _ | refine blk_drew ?_ | refine blk_alloc ?_ _)); exact BK252.out)) : gb269 ≠ gb252)); have n13_ := Aside0.mk ((by rw [hg]; exact Nat.ne_of_lt (blk_lt (g := gb253) (o := .cells #[.slice Ao38 x254000_2.length co38, .int .i64 x254001_2] 28 (0, 0)) (by (with_reducible repeat (first | refine blk_drewN ?_ _ | refine blk_drew ?_ | refine blk_alloc ?_ _)); exact BK253.out)) : gb253 ≠ gb269)); have n14_ := Aside0.mk ((by rw [hg]; exact Nat.ne_of_gt (blk_lt (g := gb253) (o := .cells #[.slice Ao38 x254000_2.length co38, .int .i64 x254001_2] 28 (0, 0)) (by (with_reducible repeat (first | refine blk_drewN ?_ _ | refine blk_drew ?_ | refine blk_alloc ?_ _)); exact BK253.out)) : gb269 ≠ gb253)); have n15_ := Aside0.mk ((by rw [hg]; exact Nat.ne_of_lt (blk_lt (g := gb262) (o := .cells #[.slice Ao32 t257.length co32, .int .i64 t260] 28 (0, 0)) (by (with_reducible repeat (first | refine blk_drewN ?_ _ | refine blk_drew ?_ | refine blk_alloc ?_ _)); exact BK262.out)) : gb262 ≠ gb269)); have n16_ := Aside0.mk ((by rw [hg]; exact Nat.ne_of_gt (blk_lt (g := gb262) (o := .cells #[.slice Ao32 t257.length co32, .int .i64 t260] 28 (0, 0)) (by (with_reducible repeat (first | refine blk_drewN ?_ _ | refine blk_drew ?_ | refine blk_alloc ?_ _)); exact BK262.out)) : gb269 ≠ gb262)); clear HO_253000; clear HO_254000; clear HO259; clear HO266; clear BK252; clear BK253; clear BK262; clear HB; have HO_253000 := n0_; have HO_254000 := n1_; have HO259 := n2_; have HO266 := n3_; have BK252 := n4_; have BK253 := n5_; have BK262 := n6_; have HB := n7_; have BK269 := n8_; have GW269 := n9_; have GE269 := n10_; have NB252_269 := n11_; have NB269_252 := n12_; have NB253_269 := n13_; have NB269_253 := n14_; have NB262_269 := n15_; have NB269_262 := n16_; clear n0_ n1_ n2_ n3_ n4_ n5_ n6_ n7_ n8_ n9_ n10_ n11_ n12_ n13_ n14_ n15_ n16_; clear hb hbox hg; obtain ⟨Ao41, co41, eo41⟩ := Kd.V_slice HO266.out; subst eo41; have hnb42 := NB269_252.out; have hnc42 := NB252_269.out; have hnb43 := NB269_253.out; have hnc43 := NB253_269.out; have hnb44 := NB269_262.out; have hnc44 := NB262_269.out; have hcz45_0 : w40.cell? ⟨gb269, 0, none⟩ = some (.slice none 0 0) := (blk_cell BK269.out 0).trans rfl; have hcz45_1 : w40.cell? ⟨gb269, 1, none⟩ = some (.int .i64 0) := (blk_cell BK269.out 1).trans rfl; have hfz45_0 := blk_frozen BK269.out 0; have hfz45_1 := blk_frozen BK269.out 1))
                      (try simp only [Act.put, List.setIfInBounds_toArray, List.set_cons_zero, List.set_cons_succ])
                      go_cut [83] (fun v83 wc => ∃ (kq : Nat) (x83_25 : Bool), v83 = .bool x83_25 ∧ Aside0 (samphirelaw07_DrawOn.j2 kq (rd l2 x39_2) t256 t261 l2 (l2.length : Int) x39_2 x83_25 x253000_2 x253001_2 t257 t260 t264 t267 = some r) ∧ Aside0 (kq ≤ k2) ∧ Aside0 (Kd.V (Kd.int .u64) 23 wc w.heap.size (fun k_ => (P0_ k_ ∨ w.heap.size ≤ k_) ∧ k_ ≠ gb252 ∧ k_ ≠ gb253 ∧ k_ ≠ gb262 ∧ k_ ≠ gb269) (.slice Ao29 x253000_2.length co29) x253000_2) ∧ Aside0 (Kd.V (Kd.int .u64) 23 wc w.heap.size (fun k_ => (P0_ k_ ∨ w.heap.size ≤ k_) ∧ k_ ≠ gb252 ∧ k_ ≠ gb253 ∧ k_ ≠ gb262 ∧ k_ ≠ gb269) (.slice Ao38 x254000_2.length co38) x254000_2) ∧ Aside0 (Kd.V (Kd.int .u64) 23 wc w.heap.size (fun k_ => (P0_ k_ ∨ w.heap.size ≤ k_) ∧ k_ ≠ gb252 ∧ k_ ≠ gb253 ∧ k_ ≠ gb262 ∧ k_ ≠ gb269) (.slice Ao32 t257.length co32) t257) ∧ Aside0 (Kd.V (Kd.int .u64) 23 wc w.heap.size (fun k_ => (P0_ k_ ∨ w.heap.size ≤ k_) ∧ k_ ≠ gb252 ∧ k_ ≠ gb253 ∧ k_ ≠ gb262 ∧ k_ ≠ gb269) (.slice Ao41 t264.length co41) t264) ∧ Aside0 (wc.heap[gb252]? = some (.cells #[(.slice Ao29 x253000_2.length co29), .int .i64 x253001_2] 28 (0, 0))) ∧ Aside0 (wc.heap[gb253]? = some (.cells #[(.slice Ao38 x254000_2.length co38), .int .i64 x254001_2] 28 (0, 0))) ∧ Aside0 (wc.heap[gb262]? = some (.cells #[(.slice Ao32 t257.length co32), .int .i64 t260] 28 (0, 0))) ∧ Aside0 (wc.heap[gb269]? = some (.cells #[(.slice Ao41 t264.length co41), .int .i64 t267] 28 (0, 0))) ∧ Aside0 (Below w.heap.size w wc))
                      case first =>
                        have H := HC26.out
                        clear HC26
                        by_cases c46 : t261 = 0
                        · rw [if_pos c46] at H
                          have c46b0 : (t261 == 0) = true := beq_iff_eq.mpr c46
                          have c46b1 : (t261 != 0) = false := bne_eq_false_iff_eq.mpr c46
                          clear c46
                          (first | rw [c46b0] | (simp only [i64_w, i32_w]; rw [c46b0]) | skip)
                          by_cases c47 : t268 = 0
                          · rw [if_pos c47] at H
                            have c47b0 : (t268 == 0) = true := beq_iff_eq.mpr c47
                            have c47b1 : (t268 != 0) = false := bne_eq_false_iff_eq.mpr c47
                            clear c47
                            by_cases c48 : t256 = t263
                            · rw [if_pos c48] at H
                              have c48b0 : (t256 == t263) = true := beq_iff_eq.mpr c48
                              have c48b1 : (t256 != t263) = false := bne_eq_false_iff_eq.mpr c48
                              clear c48
                              by_cases c49 : t260 = t267
                              · rw [if_pos c49] at H
                                have c49b0 : (t260 == t267) = true := beq_iff_eq.mpr c49
                                have c49b1 : (t260 != t267) = false := bne_eq_false_iff_eq.mpr c49
                                clear c49
                                by_cases c50 : t261 = 7
                                · rw [if_pos c50] at H
                                  have c50b0 : (t261 == 7) = true := beq_iff_eq.mpr c50
                                  have c50b1 : (t261 != 7) = false := bne_eq_false_iff_eq.mpr c50
                                  clear c50
                                  have H' := Aside0.mk H
                                  clear H
                                  have hnb51 := NB262_252.out
                                  have hnc51 := NB252_262.out
                                  have hnb52 := NB262_253.out
                                  have hnc52 := NB253_262.out
                                  have hnb53 := NB262_269.out
                                  have hnc53 := NB269_262.out
                                  have hcz54_0 : w40.cell? ⟨gb262, 0, none⟩ = some (.slice Ao32 t257.length co32) := (blk_cell BK262.out 0).trans rfl
                                  have hcz54_1 : w40.cell? ⟨gb262, 1, none⟩ = some (.int .i64 t260) := (blk_cell BK262.out 1).trans rfl
                                  have hfz54_0 := blk_frozen BK262.out 0
                                  have hfz54_1 := blk_frozen BK262.out 1
                                  have hnb55 := NB269_252.out
                                  have hnc55 := NB252_269.out
                                  have hnb56 := NB269_253.out
                                  have hnc56 := NB253_269.out
                                  have hcz57_0 : w40.cell? ⟨gb269, 0, none⟩ = some (.slice none 0 0) := (blk_cell BK269.out 0).trans rfl
                                  have hcz57_1 : w40.cell? ⟨gb269, 1, none⟩ = some (.int .i64 0) := (blk_cell BK269.out 1).trans rfl
                                  have hfz57_0 := blk_frozen BK269.out 0
                                  have hfz57_1 := blk_frozen BK269.out 1
                                  go_wp2
                                  go_meet
                                  case rel => exact ⟨_, ((t268 != t261)), (by first | rfl | (simp; done) | (simp [*]; done)), H', ⟨by have := HJ3.out; have := HK2.out; first | omega | exact Nat.le_refl _⟩, ⟨by (with_reducible repeat (first | apply Kd.V_alloc | apply Kd.V_drewN | apply Kd.V_drew)); exact Kd.V_mono (Kd.V_far (p := ⟨gb269, 1, none⟩) (Kd.V_far (p := ⟨gb269, 0, none⟩) (Kd.V_mono HO_253000.out (fun k_ hk => (⟨hk, hk.2⟩ : _ ∧ k_ ≠ gb269))) (fun _ hk => hk.2) (.slice Ao41 t264.length co41)) (fun _ hk => hk.2) (.int .i64 t267)) (fun _ hk => ⟨hk.1.1.1, ⟨hk.1.1.2.1, ⟨hk.1.1.2.2.1, ⟨hk.1.1.2.2.2, hk.1.2⟩⟩⟩⟩)⟩, ⟨by (with_reducible repeat (first | apply Kd.V_alloc | apply Kd.V_drewN | apply Kd.V_drew)); exact Kd.V_mono (Kd.V_far (p := ⟨gb269, 1, none⟩) (Kd.V_far (p := ⟨gb269, 0, none⟩) (Kd.V_mono HO_254000.out (fun k_ hk => (⟨hk, hk.2⟩ : _ ∧ k_ ≠ gb269))) (fun _ hk => hk.2) (.slice Ao41 t264.length co41)) (fun _ hk => hk.2) (.int .i64 t267)) (fun _ hk => ⟨hk.1.1.1, ⟨hk.1.1.2.1, ⟨hk.1.1.2.2.1, ⟨hk.1.1.2.2.2, hk.1.2⟩⟩⟩⟩)⟩, ⟨by (with_reducible repeat (first | apply Kd.V_alloc | apply Kd.V_drewN | apply Kd.V_drew)); exact Kd.V_mono (Kd.V_far (p := ⟨gb269, 1, none⟩) (Kd.V_far (p := ⟨gb269, 0, none⟩) (Kd.V_mono HO259.out (fun k_ hk => (⟨hk, hk.2⟩ : _ ∧ k_ ≠ gb269))) (fun _ hk => hk.2) (.slice Ao41 t264.length co41)) (fun _ hk => hk.2) (.int .i64 t267)) (fun _ hk => ⟨hk.1.1.1, ⟨hk.1.1.2.1, ⟨hk.1.1.2.2.1, ⟨hk.1.1.2.2.2, hk.1.2⟩⟩⟩⟩)⟩, ⟨by (with_reducible repeat (first | apply Kd.V_alloc | apply Kd.V_drewN | apply Kd.V_drew)); exact Kd.V_mono (Kd.V_far (p := ⟨gb269, 1, none⟩) (Kd.V_far (p := ⟨gb269, 0, none⟩) (Kd.V_mono HO266.out (fun k_ hk => (⟨hk, hk.2⟩ : _ ∧ k_ ≠ gb269))) (fun _ hk => hk.2) (.slice Ao41 t264.length co41)) (fun _ hk => hk.2) (.int .i64 t267)) (fun _ hk => ⟨hk.1.1.1, ⟨hk.1.1.2.1, ⟨hk.1.1.2.2.1, ⟨hk.1.1.2.2.2, hk.1.2⟩⟩⟩⟩)⟩, ⟨by (with_reducible repeat (first | refine blk_drewN ?_ _ | refine blk_drew ?_ | refine blk_alloc ?_ _)); refine blk_far ?_ NB252_269.out _; (with_reducible repeat (first | refine blk_drewN ?_ _ | refine blk_drew ?_ | refine blk_alloc ?_ _)); refine blk_far ?_ NB252_269.out _; (with_reducible repeat (first | refine blk_drewN ?_ _ | refine blk_drew ?_ | refine blk_alloc ?_ _)); exact BK252.out⟩, ⟨by (with_reducible repeat (first | refine blk_drewN ?_ _ | refine blk_drew ?_ | refine blk_alloc ?_ _)); refine blk_far ?_ NB253_269.out _; (with_reducible repeat (first | refine blk_drewN ?_ _ | refine blk_drew ?_ | refine blk_alloc ?_ _)); refine blk_far ?_ NB253_269.out _; (with_reducible repeat (first | refine blk_drewN ?_ _ | refine blk_drew ?_ | refine blk_alloc ?_ _)); exact BK253.out⟩, ⟨by (with_reducible repeat (first | refine blk_drewN ?_ _ | refine blk_drew ?_ | refine blk_alloc ?_ _)); refine blk_far ?_ NB262_269.out _; (with_reducible repeat (first | refine blk_drewN ?_ _ | refine blk_drew ?_ | refine blk_alloc ?_ _)); refine blk_far ?_ NB262_269.out _; (with_reducible repeat (first | refine blk_drewN ?_ _ | refine blk_drew ?_ | refine blk_alloc ?_ _)); exact BK262.out⟩, ⟨by (with_reducible repeat (first | refine blk_drewN ?_ _ | refine blk_drew ?_ | refine blk_alloc ?_ _)); refine blk_put (cs := #[.slice Ao41 t264.length co41, .int .i64 0]) ?_ 1 _ rfl; (with_reducible repeat (first | refine blk_drewN ?_ _ | refine blk_drew ?_ | refine blk_alloc ?_ _)); refine blk_put (cs := #[.slice none 0 0, .int .i64 0]) ?_ 0 _ rfl; (with_reducible repeat (first | refine blk_drewN ?_ _ | refine blk_drew ?_ | refine blk_alloc ?_ _)); exact BK269.out⟩, ⟨by repeat (first | (with_reducible first | exact HB.out | apply below_alloc | apply pw_below_drewN | apply below_drew1 | refine below_set ?_ GE252.out | refine below_set ?_ GE253.out | refine below_set ?_ GE262.out | refine below_set ?_ GE269.out) | exact HB.out)⟩⟩
                                · rw [if_neg c50] at H
                                  have c50b0 : (t261 == 7) = false := beq_eq_false_iff_ne.mpr c50
                                  have c50b1 : (t261 != 7) = true := bne_iff_ne.mpr c50
                                  have H' := Aside0.mk H
                                  clear H
                                  have hnb58 := NB262_252.out
                                  have hnc58 := NB252_262.out
                                  have hnb59 := NB262_253.out
                                  have hnc59 := NB253_262.out
                                  have hnb60 := NB262_269.out
                                  have hnc60 := NB269_262.out
                                  have hcz61_0 : w40.cell? ⟨gb262, 0, none⟩ = some (.slice Ao32 t257.length co32) := (blk_cell BK262.out 0).trans rfl
                                  have hcz61_1 : w40.cell? ⟨gb262, 1, none⟩ = some (.int .i64 t260) := (blk_cell BK262.out 1).trans rfl
                                  have hfz61_0 := blk_frozen BK262.out 0
                                  have hfz61_1 := blk_frozen BK262.out 1
                                  have hnb62 := NB269_252.out
                                  have hnc62 := NB252_269.out
                                  have hnb63 := NB269_253.out
                                  have hnc63 := NB253_269.out
                                  have hcz64_0 : w40.cell? ⟨gb269, 0, none⟩ = some (.slice none 0 0) := (blk_cell BK269.out 0).trans rfl
                                  have hcz64_1 : w40.cell? ⟨gb269, 1, none⟩ = some (.int .i64 0) := (blk_cell BK269.out 1).trans rfl
                                  have hfz64_0 := blk_frozen BK269.out 0
                                  have hfz64_1 := blk_frozen BK269.out 1
                                  go_wp2
                                  go_meet
                                  case rel => exact ⟨_, (false), (by first | rfl | (simp; done) | (simp [*]; done)), H', ⟨by have := HJ3.out; have := HK2.out; first | omega | exact Nat.le_refl _⟩, ⟨by (with_reducible repeat (first | apply Kd.V_alloc | apply Kd.V_drewN | apply Kd.V_drew)); exact Kd.V_mono (Kd.V_far (p := ⟨gb269, 1, none⟩) (Kd.V_far (p := ⟨gb269, 0, none⟩) (Kd.V_mono HO_253000.out (fun k_ hk => (⟨hk, hk.2⟩ : _ ∧ k_ ≠ gb269))) (fun _ hk => hk.2) (.slice Ao41 t264.length co41)) (fun _ hk => hk.2) (.int .i64 t267)) (fun _ hk => ⟨hk.1.1.1, ⟨hk.1.1.2.1, ⟨hk.1.1.2.2.1, ⟨hk.1.1.2.2.2, hk.1.2⟩⟩⟩⟩)⟩, ⟨by (with_reducible repeat (first | apply Kd.V_alloc | apply Kd.V_drewN | apply Kd.V_drew)); exact Kd.V_mono (Kd.V_far (p := ⟨gb269, 1, none⟩) (Kd.V_far (p := ⟨gb269, 0, none⟩) (Kd.V_mono HO_254000.out (fun k_ hk => (⟨hk, hk.2⟩ : _ ∧ k_ ≠ gb269))) (fun _ hk => hk.2) (.slice Ao41 t264.length co41)) (fun _ hk => hk.2) (.int .i64 t267)) (fun _ hk => ⟨hk.1.1.1, ⟨hk.1.1.2.1, ⟨hk.1.1.2.2.1, ⟨hk.1.1.2.2.2, hk.1.2⟩⟩⟩⟩)⟩, ⟨by (with_reducible repeat (first | apply Kd.V_alloc | apply Kd.V_drewN | apply Kd.V_drew)); exact Kd.V_mono (Kd.V_far (p := ⟨gb269, 1, none⟩) (Kd.V_far (p := ⟨gb269, 0, none⟩) (Kd.V_mono HO259.out (fun k_ hk => (⟨hk, hk.2⟩ : _ ∧ k_ ≠ gb269))) (fun _ hk => hk.2) (.slice Ao41 t264.length co41)) (fun _ hk => hk.2) (.int .i64 t267)) (fun _ hk => ⟨hk.1.1.1, ⟨hk.1.1.2.1, ⟨hk.1.1.2.2.1, ⟨hk.1.1.2.2.2, hk.1.2⟩⟩⟩⟩)⟩, ⟨by (with_reducible repeat (first | apply Kd.V_alloc | apply Kd.V_drewN | apply Kd.V_drew)); exact Kd.V_mono (Kd.V_far (p := ⟨gb269, 1, none⟩) (Kd.V_far (p := ⟨gb269, 0, none⟩) (Kd.V_mono HO266.out (fun k_ hk => (⟨hk, hk.2⟩ : _ ∧ k_ ≠ gb269))) (fun _ hk => hk.2) (.slice Ao41 t264.length co41)) (fun _ hk => hk.2) (.int .i64 t267)) (fun _ hk => ⟨hk.1.1.1, ⟨hk.1.1.2.1, ⟨hk.1.1.2.2.1, ⟨hk.1.1.2.2.2, hk.1.2⟩⟩⟩⟩)⟩, ⟨by (with_reducible repeat (first | refine blk_drewN ?_ _ | refine blk_drew ?_ | refine blk_alloc ?_ _)); refine blk_far ?_ NB252_269.out _; (with_reducible repeat (first | refine blk_drewN ?_ _ | refine blk_drew ?_ | refine blk_alloc ?_ _)); refine blk_far ?_ NB252_269.out _; (with_reducible repeat (first | refine blk_drewN ?_ _ | refine blk_drew ?_ | refine blk_alloc ?_ _)); exact BK252.out⟩, ⟨by (with_reducible repeat (first | refine blk_drewN ?_ _ | refine blk_drew ?_ | refine blk_alloc ?_ _)); refine blk_far ?_ NB253_269.out _; (with_reducible repeat (first | refine blk_drewN ?_ _ | refine blk_drew ?_ | refine blk_alloc ?_ _)); refine blk_far ?_ NB253_269.out _; (with_reducible repeat (first | refine blk_drewN ?_ _ | refine blk_drew ?_ | refine blk_alloc ?_ _)); exact BK253.out⟩, ⟨by (with_reducible repeat (first | refine blk_drewN ?_ _ | refine blk_drew ?_ | refine blk_alloc ?_ _)); refine blk_far ?_ NB262_269.out _; (with_reducible repeat (first | refine blk_drewN ?_ _ | refine blk_drew ?_ | refine blk_alloc ?_ _)); refine blk_far ?_ NB262_269.out _; (with_reducible repeat (first | refine blk_drewN ?_ _ | refine blk_drew ?_ | refine blk_alloc ?_ _)); exact BK262.out⟩, ⟨by (with_reducible repeat (first | refine blk_drewN ?_ _ | refine blk_drew ?_ | refine blk_alloc ?_ _)); refine blk_put (cs := #[.slice Ao41 t264.length co41, .int .i64 0]) ?_ 1 _ rfl; (with_reducible repeat (first | refine blk_drewN ?_ _ | refine blk_drew ?_ | refine blk_alloc ?_ _)); refine blk_put (cs := #[.slice none 0 0, .int .i64 0]) ?_ 0 _ rfl; (with_reducible repeat (first | refine blk_drewN ?_ _ | refine blk_drew ?_ | refine blk_alloc ?_ _)); exact BK269.out⟩, ⟨by repeat (first | (with_reducible first | exact HB.out | apply below_alloc | apply pw_below_drewN | apply below_drew1 | refine below_set ?_ GE252.out | refine below_set ?_ GE253.out | refine below_set ?_ GE262.out | refine below_set ?_ GE269.out) | exact HB.out)⟩⟩
                              · rw [if_neg c49] at H
                                have c49b0 : (t260 == t267) = false := beq_eq_false_iff_ne.mpr c49
                                have c49b1 : (t260 != t267) = true := bne_iff_ne.mpr c49
                                have H' := Aside0.mk H
                                clear H
                                have hnb65 := NB262_252.out
                                have hnc65 := NB252_262.out
                                have hnb66 := NB262_253.out
                                have hnc66 := NB253_262.out
                                have hnb67 := NB262_269.out
                                have hnc67 := NB269_262.out
                                have hcz68_0 : w40.cell? ⟨gb262, 0, none⟩ = some (.slice Ao32 t257.length co32) := (blk_cell BK262.out 0).trans rfl
                                have hcz68_1 : w40.cell? ⟨gb262, 1, none⟩ = some (.int .i64 t260) := (blk_cell BK262.out 1).trans rfl
                                have hfz68_0 := blk_frozen BK262.out 0
                                have hfz68_1 := blk_frozen BK262.out 1
                                have hnb69 := NB269_252.out
                                have hnc69 := NB252_269.out
                                have hnb70 := NB269_253.out
                                have hnc70 := NB253_269.out
                                have hcz71_0 : w40.cell? ⟨gb269, 0, none⟩ = some (.slice none 0 0) := (blk_cell BK269.out 0).trans rfl
                                have hcz71_1 : w40.cell? ⟨gb269, 1, none⟩ = some (.int .i64 0) := (blk_cell BK269.out 1).trans rfl
                                have hfz71_0 := blk_frozen BK269.out 0
                                have hfz71_1 := blk_frozen BK269.out 1
                                go_wp2
                                go_meet
                                case rel => exact ⟨_, (true), (by first | rfl | (simp; done) | (simp [*]; done)), H', ⟨by have := HJ3.out; have := HK2.out; first | omega | exact Nat.le_refl _⟩, ⟨by (with_reducible repeat (first | apply Kd.V_alloc | apply Kd.V_drewN | apply Kd.V_drew)); exact Kd.V_mono (Kd.V_far (p := ⟨gb269, 1, none⟩) (Kd.V_far (p := ⟨gb269, 0, none⟩) (Kd.V_mono HO_253000.out (fun k_ hk => (⟨hk, hk.2⟩ : _ ∧ k_ ≠ gb269))) (fun _ hk => hk.2) (.slice Ao41 t264.length co41)) (fun _ hk => hk.2) (.int .i64 t267)) (fun _ hk => ⟨hk.1.1.1, ⟨hk.1.1.2.1, ⟨hk.1.1.2.2.1, ⟨hk.1.1.2.2.2, hk.1.2⟩⟩⟩⟩)⟩, ⟨by (with_reducible repeat (first | apply Kd.V_alloc | apply Kd.V_drewN | apply Kd.V_drew)); exact Kd.V_mono (Kd.V_far (p := ⟨gb269, 1, none⟩) (Kd.V_far (p := ⟨gb269, 0, none⟩) (Kd.V_mono HO_254000.out (fun k_ hk => (⟨hk, hk.2⟩ : _ ∧ k_ ≠ gb269))) (fun _ hk => hk.2) (.slice Ao41 t264.length co41)) (fun _ hk => hk.2) (.int .i64 t267)) (fun _ hk => ⟨hk.1.1.1, ⟨hk.1.1.2.1, ⟨hk.1.1.2.2.1, ⟨hk.1.1.2.2.2, hk.1.2⟩⟩⟩⟩)⟩, ⟨by (with_reducible repeat (first | apply Kd.V_alloc | apply Kd.V_drewN | apply Kd.V_drew)); exact Kd.V_mono (Kd.V_far (p := ⟨gb269, 1, none⟩) (Kd.V_far (p := ⟨gb269, 0, none⟩) (Kd.V_mono HO259.out (fun k_ hk => (⟨hk, hk.2⟩ : _ ∧ k_ ≠ gb269))) (fun _ hk => hk.2) (.slice Ao41 t264.length co41)) (fun _ hk => hk.2) (.int .i64 t267)) (fun _ hk => ⟨hk.1.1.1, ⟨hk.1.1.2.1, ⟨hk.1.1.2.2.1, ⟨hk.1.1.2.2.2, hk.1.2⟩⟩⟩⟩)⟩, ⟨by (with_reducible repeat (first | apply Kd.V_alloc | apply Kd.V_drewN | apply Kd.V_drew)); exact Kd.V_mono (Kd.V_far (p := ⟨gb269, 1, none⟩) (Kd.V_far (p := ⟨gb269, 0, none⟩) (Kd.V_mono HO266.out (fun k_ hk => (⟨hk, hk.2⟩ : _ ∧ k_ ≠ gb269))) (fun _ hk => hk.2) (.slice Ao41 t264.length co41)) (fun _ hk => hk.2) (.int .i64 t267)) (fun _ hk => ⟨hk.1.1.1, ⟨hk.1.1.2.1, ⟨hk.1.1.2.2.1, ⟨hk.1.1.2.2.2, hk.1.2⟩⟩⟩⟩)⟩, ⟨by (with_reducible repeat (first | refine blk_drewN ?_ _ | refine blk_drew ?_ | refine blk_alloc ?_ _)); refine blk_far ?_ NB252_269.out _; (with_reducible repeat (first | refine blk_drewN ?_ _ | refine blk_drew ?_ | refine blk_alloc ?_ _)); refine blk_far ?_ NB252_269.out _; (with_reducible repeat (first | refine blk_drewN ?_ _ | refine blk_drew ?_ | refine blk_alloc ?_ _)); exact BK252.out⟩, ⟨by (with_reducible repeat (first | refine blk_drewN ?_ _ | refine blk_drew ?_ | refine blk_alloc ?_ _)); refine blk_far ?_ NB253_269.out _; (with_reducible repeat (first | refine blk_drewN ?_ _ | refine blk_drew ?_ | refine blk_alloc ?_ _)); refine blk_far ?_ NB253_269.out _; (with_reducible repeat (first | refine blk_drewN ?_ _ | refine blk_drew ?_ | refine blk_alloc ?_ _)); exact BK253.out⟩, ⟨by (with_reducible repeat (first | refine blk_drewN ?_ _ | refine blk_drew ?_ | refine blk_alloc ?_ _)); refine blk_far ?_ NB262_269.out _; (with_reducible repeat (first | refine blk_drewN ?_ _ | refine blk_drew ?_ | refine blk_alloc ?_ _)); refine blk_far ?_ NB262_269.out _; (with_reducible repeat (first | refine blk_drewN ?_ _ | refine blk_drew ?_ | refine blk_alloc ?_ _)); exact BK262.out⟩, ⟨by (with_reducible repeat (first | refine blk_drewN ?_ _ | refine blk_drew ?_ | refine blk_alloc ?_ _)); refine blk_put (cs := #[.slice Ao41 t264.length co41, .int .i64 0]) ?_ 1 _ rfl; (with_reducible repeat (first | refine blk_drewN ?_ _ | refine blk_drew ?_ | refine blk_alloc ?_ _)); refine blk_put (cs := #[.slice none 0 0, .int .i64 0]) ?_ 0 _ rfl; (with_reducible repeat (first | refine blk_drewN ?_ _ | refine blk_drew ?_ | refine blk_alloc ?_ _)); exact BK269.out⟩, ⟨by repeat (first | (with_reducible first | exact HB.out | apply below_alloc | apply pw_below_drewN | apply below_drew1 | refine below_set ?_ GE252.out | refine below_set ?_ GE253.out | refine below_set ?_ GE262.out | refine below_set ?_ GE269.out) | exact HB.out)⟩⟩
                            · rw [if_neg c48] at H
                              have c48b0 : (t256 == t263) = false := beq_eq_false_iff_ne.mpr c48
                              have c48b1 : (t256 != t263) = true := bne_iff_ne.mpr c48
                              have H' := Aside0.mk H
                              clear H
                              go_wp2
                              go_meet
                              case rel => exact ⟨_, (true), (by first | rfl | (simp; done) | (simp [*]; done)), H', ⟨by have := HJ3.out; have := HK2.out; first | omega | exact Nat.le_refl _⟩, ⟨by (with_reducible repeat (first | apply Kd.V_alloc | apply Kd.V_drewN | apply Kd.V_drew)); exact Kd.V_mono (Kd.V_far (p := ⟨gb269, 1, none⟩) (Kd.V_far (p := ⟨gb269, 0, none⟩) (Kd.V_mono HO_253000.out (fun k_ hk => (⟨hk, hk.2⟩ : _ ∧ k_ ≠ gb269))) (fun _ hk => hk.2) (.slice Ao41 t264.length co41)) (fun _ hk => hk.2) (.int .i64 t267)) (fun _ hk => ⟨hk.1.1.1, ⟨hk.1.1.2.1, ⟨hk.1.1.2.2.1, ⟨hk.1.1.2.2.2, hk.1.2⟩⟩⟩⟩)⟩, ⟨by (with_reducible repeat (first | apply Kd.V_alloc | apply Kd.V_drewN | apply Kd.V_drew)); exact Kd.V_mono (Kd.V_far (p := ⟨gb269, 1, none⟩) (Kd.V_far (p := ⟨gb269, 0, none⟩) (Kd.V_mono HO_254000.out (fun k_ hk => (⟨hk, hk.2⟩ : _ ∧ k_ ≠ gb269))) (fun _ hk => hk.2) (.slice Ao41 t264.length co41)) (fun _ hk => hk.2) (.int .i64 t267)) (fun _ hk => ⟨hk.1.1.1, ⟨hk.1.1.2.1, ⟨hk.1.1.2.2.1, ⟨hk.1.1.2.2.2, hk.1.2⟩⟩⟩⟩)⟩, ⟨by (with_reducible repeat (first | apply Kd.V_alloc | apply Kd.V_drewN | apply Kd.V_drew)); exact Kd.V_mono (Kd.V_far (p := ⟨gb269, 1, none⟩) (Kd.V_far (p := ⟨gb269, 0, none⟩) (Kd.V_mono HO259.out (fun k_ hk => (⟨hk, hk.2⟩ : _ ∧ k_ ≠ gb269))) (fun _ hk => hk.2) (.slice Ao41 t264.length co41)) (fun _ hk => hk.2) (.int .i64 t267)) (fun _ hk => ⟨hk.1.1.1, ⟨hk.1.1.2.1, ⟨hk.1.1.2.2.1, ⟨hk.1.1.2.2.2, hk.1.2⟩⟩⟩⟩)⟩, ⟨by (with_reducible repeat (first | apply Kd.V_alloc | apply Kd.V_drewN | apply Kd.V_drew)); exact Kd.V_mono (Kd.V_far (p := ⟨gb269, 1, none⟩) (Kd.V_far (p := ⟨gb269, 0, none⟩) (Kd.V_mono HO266.out (fun k_ hk => (⟨hk, hk.2⟩ : _ ∧ k_ ≠ gb269))) (fun _ hk => hk.2) (.slice Ao41 t264.length co41)) (fun _ hk => hk.2) (.int .i64 t267)) (fun _ hk => ⟨hk.1.1.1, ⟨hk.1.1.2.1, ⟨hk.1.1.2.2.1, ⟨hk.1.1.2.2.2, hk.1.2⟩⟩⟩⟩)⟩, ⟨by (with_reducible repeat (first | refine blk_drewN ?_ _ | refine blk_drew ?_ | refine blk_alloc ?_ _)); refine blk_far ?_ NB252_269.out _; (with_reducible repeat (first | refine blk_drewN ?_ _ | refine blk_drew ?_ | refine blk_alloc ?_ _)); refine blk_far ?_ NB252_269.out _; (with_reducible repeat (first | refine blk_drewN ?_ _ | refine blk_drew ?_ | refine blk_alloc ?_ _)); exact BK252.out⟩, ⟨by (with_reducible repeat (first | refine blk_drewN ?_ _ | refine blk_drew ?_ | refine blk_alloc ?_ _)); refine blk_far ?_ NB253_269.out _; (with_reducible repeat (first | refine blk_drewN ?_ _ | refine blk_drew ?_ | refine blk_alloc ?_ _)); refine blk_far ?_ NB253_269.out _; (with_reducible repeat (first | refine blk_drewN ?_ _ | refine blk_drew ?_ | refine blk_alloc ?_ _)); exact BK253.out⟩, ⟨by (with_reducible repeat (first | refine blk_drewN ?_ _ | refine blk_drew ?_ | refine blk_alloc ?_ _)); refine blk_far ?_ NB262_269.out _; (with_reducible repeat (first | refine blk_drewN ?_ _ | refine blk_drew ?_ | refine blk_alloc ?_ _)); refine blk_far ?_ NB262_269.out _; (with_reducible repeat (first | refine blk_drewN ?_ _ | refine blk_drew ?_ | refine blk_alloc ?_ _)); exact BK262.out⟩, ⟨by (with_reducible repeat (first | refine blk_drewN ?_ _ | refine blk_drew ?_ | refine blk_alloc ?_ _)); refine blk_put (cs := #[.slice Ao41 t264.length co41, .int .i64 0]) ?_ 1 _ rfl; (with_reducible repeat (first | refine blk_drewN ?_ _ | refine blk_drew ?_ | refine blk_alloc ?_ _)); refine blk_put (cs := #[.slice none 0 0, .int .i64 0]) ?_ 0 _ rfl; (with_reducible repeat (first | refine blk_drewN ?_ _ | refine blk_drew ?_ | refine blk_alloc ?_ _)); exact BK269.out⟩, ⟨by repeat (first | (with_reducible first | exact HB.out | apply below_alloc | apply pw_below_drewN | apply below_drew1 | refine below_set ?_ GE252.out | refine below_set ?_ GE253.out | refine below_set ?_ GE262.out | refine below_set ?_ GE269.out) | exact HB.out)⟩⟩
                          · rw [if_neg c47] at H
                            have c47b0 : (t268 == 0) = false := beq_eq_false_iff_ne.mpr c47
                            have c47b1 : (t268 != 0) = true := bne_iff_ne.mpr c47
                            have H' := Aside0.mk H
                            clear H
                            go_wp2
                            go_meet
                            case rel => exact ⟨_, (true), (by first | rfl | (simp; done) | (simp [*]; done)), H', ⟨by have := HJ3.out; have := HK2.out; first | omega | exact Nat.le_refl _⟩, ⟨by (with_reducible repeat (first | apply Kd.V_alloc | apply Kd.V_drewN | apply Kd.V_drew)); exact Kd.V_mono (Kd.V_far (p := ⟨gb269, 1, none⟩) (Kd.V_far (p := ⟨gb269, 0, none⟩) (Kd.V_mono HO_253000.out (fun k_ hk => (⟨hk, hk.2⟩ : _ ∧ k_ ≠ gb269))) (fun _ hk => hk.2) (.slice Ao41 t264.length co41)) (fun _ hk => hk.2) (.int .i64 t267)) (fun _ hk => ⟨hk.1.1.1, ⟨hk.1.1.2.1, ⟨hk.1.1.2.2.1, ⟨hk.1.1.2.2.2, hk.1.2⟩⟩⟩⟩)⟩, ⟨by (with_reducible repeat (first | apply Kd.V_alloc | apply Kd.V_drewN | apply Kd.V_drew)); exact Kd.V_mono (Kd.V_far (p := ⟨gb269, 1, none⟩) (Kd.V_far (p := ⟨gb269, 0, none⟩) (Kd.V_mono HO_254000.out (fun k_ hk => (⟨hk, hk.2⟩ : _ ∧ k_ ≠ gb269))) (fun _ hk => hk.2) (.slice Ao41 t264.length co41)) (fun _ hk => hk.2) (.int .i64 t267)) (fun _ hk => ⟨hk.1.1.1, ⟨hk.1.1.2.1, ⟨hk.1.1.2.2.1, ⟨hk.1.1.2.2.2, hk.1.2⟩⟩⟩⟩)⟩, ⟨by (with_reducible repeat (first | apply Kd.V_alloc | apply Kd.V_drewN | apply Kd.V_drew)); exact Kd.V_mono (Kd.V_far (p := ⟨gb269, 1, none⟩) (Kd.V_far (p := ⟨gb269, 0, none⟩) (Kd.V_mono HO259.out (fun k_ hk => (⟨hk, hk.2⟩ : _ ∧ k_ ≠ gb269))) (fun _ hk => hk.2) (.slice Ao41 t264.length co41)) (fun _ hk => hk.2) (.int .i64 t267)) (fun _ hk => ⟨hk.1.1.1, ⟨hk.1.1.2.1, ⟨hk.1.1.2.2.1, ⟨hk.1.1.2.2.2, hk.1.2⟩⟩⟩⟩)⟩, ⟨by (with_reducible repeat (first | apply Kd.V_alloc | apply Kd.V_drewN | apply Kd.V_drew)); exact Kd.V_mono (Kd.V_far (p := ⟨gb269, 1, none⟩) (Kd.V_far (p := ⟨gb269, 0, none⟩) (Kd.V_mono HO266.out (fun k_ hk => (⟨hk, hk.2⟩ : _ ∧ k_ ≠ gb269))) (fun _ hk => hk.2) (.slice Ao41 t264.length co41)) (fun _ hk => hk.2) (.int .i64 t267)) (fun _ hk => ⟨hk.1.1.1, ⟨hk.1.1.2.1, ⟨hk.1.1.2.2.1, ⟨hk.1.1.2.2.2, hk.1.2⟩⟩⟩⟩)⟩, ⟨by (with_reducible repeat (first | refine blk_drewN ?_ _ | refine blk_drew ?_ | refine blk_alloc ?_ _)); refine blk_far ?_ NB252_269.out _; (with_reducible repeat (first | refine blk_drewN ?_ _ | refine blk_drew ?_ | refine blk_alloc ?_ _)); refine blk_far ?_ NB252_269.out _; (with_reducible repeat (first | refine blk_drewN ?_ _ | refine blk_drew ?_ | refine blk_alloc ?_ _)); exact BK252.out⟩, ⟨by (with_reducible repeat (first | refine blk_drewN ?_ _ | refine blk_drew ?_ | refine blk_alloc ?_ _)); refine blk_far ?_ NB253_269.out _; (with_reducible repeat (first | refine blk_drewN ?_ _ | refine blk_drew ?_ | refine blk_alloc ?_ _)); refine blk_far ?_ NB253_269.out _; (with_reducible repeat (first | refine blk_drewN ?_ _ | refine blk_drew ?_ | refine blk_alloc ?_ _)); exact BK253.out⟩, ⟨by (with_reducible repeat (first | refine blk_drewN ?_ _ | refine blk_drew ?_ | refine blk_alloc ?_ _)); refine blk_far ?_ NB262_269.out _; (with_reducible repeat (first | refine blk_drewN ?_ _ | refine blk_drew ?_ | refine blk_alloc ?_ _)); refine blk_far ?_ NB262_269.out _; (with_reducible repeat (first | refine blk_drewN ?_ _ | refine blk_drew ?_ | refine blk_alloc ?_ _)); exact BK262.out⟩, ⟨by (with_reducible repeat (first | refine blk_drewN ?_ _ | refine blk_drew ?_ | refine blk_alloc ?_ _)); refine blk_put (cs := #[.slice Ao41 t264.length co41, .int .i64 0]) ?_ 1 _ rfl; (with_reducible repeat (first | refine blk_drewN ?_ _ | refine blk_drew ?_ | refine blk_alloc ?_ _)); refine blk_put (cs := #[.slice none 0 0, .int .i64 0]) ?_ 0 _ rfl; (with_reducible repeat (first | refine blk_drewN ?_ _ | refine blk_drew ?_ | refine blk_alloc ?_ _)); exact BK269.out⟩, ⟨by repeat (first | (with_reducible first | exact HB.out | apply below_alloc | apply pw_below_drewN | apply below_drew1 | refine below_set ?_ GE252.out | refine below_set ?_ GE253.out | refine below_set ?_ GE262.out | refine below_set ?_ GE269.out) | exact HB.out)⟩⟩
                        · rw [if_neg c46] at H
                          have c46b0 : (t261 == 0) = false := beq_eq_false_iff_ne.mpr c46
                          have c46b1 : (t261 != 0) = true := bne_iff_ne.mpr c46
                          (first | rw [c46b0] | (simp only [i64_w, i32_w]; rw [c46b0]) | skip)
                          by_cases c72 : t261 = 7
                          · rw [if_pos c72] at H
                            have c72b0 : (t261 == 7) = true := beq_iff_eq.mpr c72
                            have c72b1 : (t261 != 7) = false := bne_eq_false_iff_eq.mpr c72
                            clear c72
                            have H' := Aside0.mk H
                            clear H
                            go_wp2
                            go_meet
                            case rel => exact ⟨_, ((t268 != t261)), (by first | rfl | (simp; done) | (simp [*]; done)), H', ⟨by have := HJ3.out; have := HK2.out; first | omega | exact Nat.le_refl _⟩, ⟨by (with_reducible repeat (first | apply Kd.V_alloc | apply Kd.V_drewN | apply Kd.V_drew)); exact Kd.V_mono (Kd.V_far (p := ⟨gb269, 1, none⟩) (Kd.V_far (p := ⟨gb269, 0, none⟩) (Kd.V_mono HO_253000.out (fun k_ hk => (⟨hk, hk.2⟩ : _ ∧ k_ ≠ gb269))) (fun _ hk => hk.2) (.slice Ao41 t264.length co41)) (fun _ hk => hk.2) (.int .i64 t267)) (fun _ hk => ⟨hk.1.1.1, ⟨hk.1.1.2.1, ⟨hk.1.1.2.2.1, ⟨hk.1.1.2.2.2, hk.1.2⟩⟩⟩⟩)⟩, ⟨by (with_reducible repeat (first | apply Kd.V_alloc | apply Kd.V_drewN | apply Kd.V_drew)); exact Kd.V_mono (Kd.V_far (p := ⟨gb269, 1, none⟩) (Kd.V_far (p := ⟨gb269, 0, none⟩) (Kd.V_mono HO_254000.out (fun k_ hk => (⟨hk, hk.2⟩ : _ ∧ k_ ≠ gb269))) (fun _ hk => hk.2) (.slice Ao41 t264.length co41)) (fun _ hk => hk.2) (.int .i64 t267)) (fun _ hk => ⟨hk.1.1.1, ⟨hk.1.1.2.1, ⟨hk.1.1.2.2.1, ⟨hk.1.1.2.2.2, hk.1.2⟩⟩⟩⟩)⟩, ⟨by (with_reducible repeat (first | apply Kd.V_alloc | apply Kd.V_drewN | apply Kd.V_drew)); exact Kd.V_mono (Kd.V_far (p := ⟨gb269, 1, none⟩) (Kd.V_far (p := ⟨gb269, 0, none⟩) (Kd.V_mono HO259.out (fun k_ hk => (⟨hk, hk.2⟩ : _ ∧ k_ ≠ gb269))) (fun _ hk => hk.2) (.slice Ao41 t264.length co41)) (fun _ hk => hk.2) (.int .i64 t267)) (fun _ hk => ⟨hk.1.1.1, ⟨hk.1.1.2.1, ⟨hk.1.1.2.2.1, ⟨hk.1.1.2.2.2, hk.1.2⟩⟩⟩⟩)⟩, ⟨by (with_reducible repeat (first | apply Kd.V_alloc | apply Kd.V_drewN | apply Kd.V_drew)); exact Kd.V_mono (Kd.V_far (p := ⟨gb269, 1, none⟩) (Kd.V_far (p := ⟨gb269, 0, none⟩) (Kd.V_mono HO266.out (fun k_ hk => (⟨hk, hk.2⟩ : _ ∧ k_ ≠ gb269))) (fun _ hk => hk.2) (.slice Ao41 t264.length co41)) (fun _ hk => hk.2) (.int .i64 t267)) (fun _ hk => ⟨hk.1.1.1, ⟨hk.1.1.2.1, ⟨hk.1.1.2.2.1, ⟨hk.1.1.2.2.2, hk.1.2⟩⟩⟩⟩)⟩, ⟨by (with_reducible repeat (first | refine blk_drewN ?_ _ | refine blk_drew ?_ | refine blk_alloc ?_ _)); refine blk_far ?_ NB252_269.out _; (with_reducible repeat (first | refine blk_drewN ?_ _ | refine blk_drew ?_ | refine blk_alloc ?_ _)); refine blk_far ?_ NB252_269.out _; (with_reducible repeat (first | refine blk_drewN ?_ _ | refine blk_drew ?_ | refine blk_alloc ?_ _)); exact BK252.out⟩, ⟨by (with_reducible repeat (first | refine blk_drewN ?_ _ | refine blk_drew ?_ | refine blk_alloc ?_ _)); refine blk_far ?_ NB253_269.out _; (with_reducible repeat (first | refine blk_drewN ?_ _ | refine blk_drew ?_ | refine blk_alloc ?_ _)); refine blk_far ?_ NB253_269.out _; (with_reducible repeat (first | refine blk_drewN ?_ _ | refine blk_drew ?_ | refine blk_alloc ?_ _)); exact BK253.out⟩, ⟨by (with_reducible repeat (first | refine blk_drewN ?_ _ | refine blk_drew ?_ | refine blk_alloc ?_ _)); refine blk_far ?_ NB262_269.out _; (with_reducible repeat (first | refine blk_drewN ?_ _ | refine blk_drew ?_ | refine blk_alloc ?_ _)); refine blk_far ?_ NB262_269.out _; (with_reducible repeat (first | refine blk_drewN ?_ _ | refine blk_drew ?_ | refine blk_alloc ?_ _)); exact BK262.out⟩, ⟨by (with_reducible repeat (first | refine blk_drewN ?_ _ | refine blk_drew ?_ | refine blk_alloc ?_ _)); refine blk_put (cs := #[.slice Ao41 t264.length co41, .int .i64 0]) ?_ 1 _ rfl; (with_reducible repeat (first | refine blk_drewN ?_ _ | refine blk_drew ?_ | refine blk_alloc ?_ _)); refine blk_put (cs := #[.slice none 0 0, .int .i64 0]) ?_ 0 _ rfl; (with_reducible repeat (first | refine blk_drewN ?_ _ | refine blk_drew ?_ | refine blk_alloc ?_ _)); exact BK269.out⟩, ⟨by repeat (first | (with_reducible first | exact HB.out | apply below_alloc | apply pw_below_drewN | apply below_drew1 | refine below_set ?_ GE252.out | refine below_set ?_ GE253.out | refine below_set ?_ GE262.out | refine below_set ?_ GE269.out) | exact HB.out)⟩⟩
                          · rw [if_neg c72] at H
                            have c72b0 : (t261 == 7) = false := beq_eq_false_iff_ne.mpr c72
                            have c72b1 : (t261 != 7) = true := bne_iff_ne.mpr c72
                            have H' := Aside0.mk H
                            clear H
                            go_wp2
                            go_meet
                            case rel => exact ⟨_, (false), (by first | rfl | (simp; done) | (simp [*]; done)), H', ⟨by have := HJ3.out; have := HK2.out; first | omega | exact Nat.le_refl _⟩, ⟨by (with_reducible repeat (first | apply Kd.V_alloc | apply Kd.V_drewN | apply Kd.V_drew)); exact Kd.V_mono (Kd.V_far (p := ⟨gb269, 1, none⟩) (Kd.V_far (p := ⟨gb269, 0, none⟩) (Kd.V_mono HO_253000.out (fun k_ hk => (⟨hk, hk.2⟩ : _ ∧ k_ ≠ gb269))) (fun _ hk => hk.2) (.slice Ao41 t264.length co41)) (fun _ hk => hk.2) (.int .i64 t267)) (fun _ hk => ⟨hk.1.1.1, ⟨hk.1.1.2.1, ⟨hk.1.1.2.2.1, ⟨hk.1.1.2.2.2, hk.1.2⟩⟩⟩⟩)⟩, ⟨by (with_reducible repeat (first | apply Kd.V_alloc | apply Kd.V_drewN | apply Kd.V_drew)); exact Kd.V_mono (Kd.V_far (p := ⟨gb269, 1, none⟩) (Kd.V_far (p := ⟨gb269, 0, none⟩) (Kd.V_mono HO_254000.out (fun k_ hk => (⟨hk, hk.2⟩ : _ ∧ k_ ≠ gb269))) (fun _ hk => hk.2) (.slice Ao41 t264.length co41)) (fun _ hk => hk.2) (.int .i64 t267)) (fun _ hk => ⟨hk.1.1.1, ⟨hk.1.1.2.1, ⟨hk.1.1.2.2.1, ⟨hk.1.1.2.2.2, hk.1.2⟩⟩⟩⟩)⟩, ⟨by (with_reducible repeat (first | apply Kd.V_alloc | apply Kd.V_drewN | apply Kd.V_drew)); exact Kd.V_mono (Kd.V_far (p := ⟨gb269, 1, none⟩) (Kd.V_far (p := ⟨gb269, 0, none⟩) (Kd.V_mono HO259.out (fun k_ hk => (⟨hk, hk.2⟩ : _ ∧ k_ ≠ gb269))) (fun _ hk => hk.2) (.slice Ao41 t264.length co41)) (fun _ hk => hk.2) (.int .i64 t267)) (fun _ hk => ⟨hk.1.1.1, ⟨hk.1.1.2.1, ⟨hk.1.1.2.2.1, ⟨hk.1.1.2.2.2, hk.1.2⟩⟩⟩⟩)⟩, ⟨by (with_reducible repeat (first | apply Kd.V_alloc | apply Kd.V_drewN | apply Kd.V_drew)); exact Kd.V_mono (Kd.V_far (p := ⟨gb269, 1, none⟩) (Kd.V_far (p := ⟨gb269, 0, none⟩) (Kd.V_mono HO266.out (fun k_ hk => (⟨hk, hk.2⟩ : _ ∧ k_ ≠ gb269))) (fun _ hk => hk.2) (.slice Ao41 t264.length co41)) (fun _ hk => hk.2) (.int .i64 t267)) (fun _ hk => ⟨hk.1.1.1, ⟨hk.1.1.2.1, ⟨hk.1.1.2.2.1, ⟨hk.1.1.2.2.2, hk.1.2⟩⟩⟩⟩)⟩, ⟨by (with_reducible repeat (first | refine blk_drewN ?_ _ | refine blk_drew ?_ | refine blk_alloc ?_ _)); refine blk_far ?_ NB252_269.out _; (with_reducible repeat (first | refine blk_drewN ?_ _ | refine blk_drew ?_ | refine blk_alloc ?_ _)); refine blk_far ?_ NB252_269.out _; (with_reducible repeat (first | refine blk_drewN ?_ _ | refine blk_drew ?_ | refine blk_alloc ?_ _)); exact BK252.out⟩, ⟨by (with_reducible repeat (first | refine blk_drewN ?_ _ | refine blk_drew ?_ | refine blk_alloc ?_ _)); refine blk_far ?_ NB253_269.out _; (with_reducible repeat (first | refine blk_drewN ?_ _ | refine blk_drew ?_ | refine blk_alloc ?_ _)); refine blk_far ?_ NB253_269.out _; (with_reducible repeat (first | refine blk_drewN ?_ _ | refine blk_drew ?_ | refine blk_alloc ?_ _)); exact BK253.out⟩, ⟨by (with_reducible repeat (first | refine blk_drewN ?_ _ | refine blk_drew ?_ | refine blk_alloc ?_ _)); refine blk_far ?_ NB262_269.out _; (with_reducible repeat (first | refine blk_drewN ?_ _ | refine blk_drew ?_ | refine blk_alloc ?_ _)); refine blk_far ?_ NB262_269.out _; (with_reducible repeat (first | refine blk_drewN ?_ _ | refine blk_drew ?_ | refine blk_alloc ?_ _)); exact BK262.out⟩, ⟨by (with_reducible repeat (first | refine blk_drewN ?_ _ | refine blk_drew ?_ | refine blk_alloc ?_ _)); refine blk_put (cs := #[.slice Ao41 t264.length co41, .int .i64 0]) ?_ 1 _ rfl; (with_reducible repeat (first | refine blk_drewN ?_ _ | refine blk_drew ?_ | refine blk_alloc ?_ _)); refine blk_put (cs := #[.slice none 0 0, .int .i64 0]) ?_ 0 _ rfl; (with_reducible repeat (first | refine blk_drewN ?_ _ | refine blk_drew ?_ | refine blk_alloc ?_ _)); exact BK269.out⟩, ⟨by repeat (first | (with_reducible first | exact HB.out | apply below_alloc | apply pw_below_drewN | apply below_drew1 | refine below_set ?_ GE252.out | refine below_set ?_ GE253.out | refine below_set ?_ GE262.out | refine below_set ?_ GE269.out) | exact HB.out)⟩⟩
                      case rest =>
                        clear HC26
                        try clear c1
                        try clear c2
                        try clear p2
                        try clear q2
                        try clear hx2
                        try clear c3
                        try clear c4
                        try clear c5
                        try clear c5b0
                        try clear c6
                        try clear p6
                        try clear c7
                        try clear c9
                        try clear c10
                        try clear c18
                        try clear c21
                        try clear c21b0
                        try clear c22
                        try clear c22b0
                        try clear c23
                        try clear c23b0
                        try clear p25
                        try clear q25
                        try clear hx25
                        try clear c27
                        try clear c33
                        try clear c34
                        try clear c42
                        try clear c43
                        try clear c44
                        try clear c46
                        try clear c46b0
                        try clear c46b1
                        try clear c47
                        try clear c47b0
                        try clear c47b1
                        try clear c48
                        try clear c48b0
                        try clear c48b1
                        try clear c49
                        try clear c49b0
                        try clear c49b1
                        try clear c50
                        try clear c50b0
                        try clear c50b1
                        try clear c51
                        try clear c52
                        try clear c53
                        try clear c55
                        try clear c56
                        try clear c58
                        try clear c59
                        try clear c60
                        try clear c62
                        try clear c63
                        try clear p64
                        try clear c65
                        try clear c66
                        try clear c67
                        try clear c69
                        try clear c70
                        try clear c72
                        try clear c72b0
                        try clear c72b1
                        try clear hcz19_0
                        try clear hcz19_1
                        try clear hcz20_0
                        try clear hcz20_1
                        try clear hcz28_0
                        try clear hcz28_1
                        try clear hcz35_0
                        try clear hcz35_1
                        try clear hcz37_0
                        try clear hcz37_1
                        try clear hcz45_0
                        try clear hcz45_1
                        try clear hcz54_0
                        try clear hcz54_1
                        try clear hcz57_0
                        try clear hcz57_1
                        try clear hcz61_0
                        try clear hcz61_1
                        try clear hcz64_0
                        try clear hcz64_1
                        try clear hcz68_0
                        try clear hcz68_1
                        try clear hcz71_0
                        try clear hcz71_1
                        try clear hfz19_0
                        try clear hfz19_1
                        try clear hfz20_0
                        try clear hfz20_1
                        try clear hfz28_0
                        try clear hfz28_1
                        try clear hfz35_0
                        try clear hfz35_1
                        try clear hfz37_0
                        try clear hfz37_1
                        try clear hfz45_0
                        try clear hfz45_1
                        try clear hfz54_0
                        try clear hfz54_1
                        try clear hfz57_0
                        try clear hfz57_1
                        try clear hfz61_0
                        try clear hfz61_1
                        try clear hfz64_0
                        try clear hfz64_1
                        try clear hfz68_0
                        try clear hfz68_1
                        try clear hfz71_0
                        try clear hfz71_1
                        try clear hx255_0
                        try clear p2
                        try clear p255
                        try clear p6
                        try clear q255
                        obtain ⟨kq, x83_25, rfl, HA, HJ25, HO_253000, HO_254000, HO_263000, HO_270000, BK252, BK253, BK262, BK269, HB⟩ := hcut
                        cases kq with
                        | zero => exact absurd HA.out (by simp [samphirelaw07_DrawOn.j2])
                        | succ kj25 =>
                          have H := HA.out
                          clear HA
                          simp only [samphirelaw07_DrawOn.j2] at H
                          by_cases c73 : x83_25 = true
                          · subst c73
                            have H1 : (some false) = some r := by rw [if_pos rfl] at H; exact H
                            clear H
                            have H := H1
                            clear H1
                            obtain rfl := Option.some.inj H
                            go_wp2
                            go_ret
                            exact ⟨by first | rfl | (simp [errW_none, errW_some] <;> rfl) | (simp [*, errW_none, errW_some] <;> rfl), by repeat (first | (with_reducible first | exact HB.out | apply below_alloc | apply pw_below_drewN | apply below_drew1 | refine below_set ?_ GE252.out | refine below_set ?_ GE253.out | refine below_set ?_ GE262.out | refine below_set ?_ GE269.out) | exact HB.out)⟩
                          · replace c73 := Bool.eq_false_iff.mpr c73
                            subst c73
                            have H1 : (if t261 = 0 then (if t260 < x253001_2 then (some false) else (if t256 ≥ (rd l2 x39_2) then (some false) else (samphirelaw07_DrawOn.l0 kj25 l2 (l2.length : Int) (wrap64 (x39_2 + 1)) t257 t260 t264 t267))) else ((samphirelaw07_awake.f kj25).bind fun t270 => (some t270))) = some r := by rw [if_neg (show ¬ (false = true) by decide)] at H; exact H
                            clear H
                            have H := H1
                            clear H1
                            by_cases c74 : t261 = 0
                            · rw [if_pos c74] at H
                              have c74b0 : (t261 == 0) = true := beq_iff_eq.mpr c74
                              have c74b1 : (t261 != 0) = false := bne_eq_false_iff_eq.mpr c74
                              clear c74
                              by_cases c75 : t260 < x253001_2
                              · rw [if_pos c75] at H
                                have c75b0 : decide (t260 < x253001_2) = true := decide_eq_true c75
                                clear c75
                                obtain rfl := Option.some.inj H
                                have hnb76 := NB262_252.out
                                have hnc76 := NB252_262.out
                                have hnb77 := NB262_253.out
                                have hnc77 := NB253_262.out
                                have hnb78 := NB262_269.out
                                have hnc78 := NB269_262.out
                                have hcz79_0 : wc.cell? ⟨gb262, 0, none⟩ = some (.slice Ao32 t257.length co32) := (blk_cell BK262.out 0).trans rfl
                                have hcz79_1 : wc.cell? ⟨gb262, 1, none⟩ = some (.int .i64 t260) := (blk_cell BK262.out 1).trans rfl
                                have hfz79_0 := blk_frozen BK262.out 0
                                have hfz79_1 := blk_frozen BK262.out 1
                                have hnb80 := NB252_253.out
                                have hnc80 := NB253_252.out
                                have hnb81 := NB252_269.out
                                have hnc81 := NB269_252.out
                                have hcz82_0 : wc.cell? ⟨gb252, 0, none⟩ = some (.slice Ao29 x253000_2.length co29) := (blk_cell BK252.out 0).trans rfl
                                have hcz82_1 : wc.cell? ⟨gb252, 1, none⟩ = some (.int .i64 x253001_2) := (blk_cell BK252.out 1).trans rfl
                                have hfz82_0 := blk_frozen BK252.out 0
                                have hfz82_1 := blk_frozen BK252.out 1
                                go_wp2
                                go_ret
                                exact ⟨by first | rfl | (simp [errW_none, errW_some] <;> rfl) | (simp [*, errW_none, errW_some] <;> rfl), by repeat (first | (with_reducible first | exact HB.out | apply below_alloc | apply pw_below_drewN | apply below_drew1 | refine below_set ?_ GE252.out | refine below_set ?_ GE253.out | refine below_set ?_ GE262.out | refine below_set ?_ GE269.out) | exact HB.out)⟩
                              · rw [if_neg c75] at H
                                have c75b0 : decide (t260 < x253001_2) = false := decide_eq_false c75
                                clear c75
                                by_cases c83 : t256 ≥ (rd l2 x39_2)
                                · rw [if_pos c83] at H
                                  have c83b0 : decide ((rd l2 x39_2) ≤ t256) = true := decide_eq_true c83
                                  clear c83
                                  obtain rfl := Option.some.inj H
                                  have hnb84 := NB262_252.out
                                  have hnc84 := NB252_262.out
                                  have hnb85 := NB262_253.out
                                  have hnc85 := NB253_262.out
                                  have hnb86 := NB262_269.out
                                  have hnc86 := NB269_262.out
                                  have hcz87_0 : wc.cell? ⟨gb262, 0, none⟩ = some (.slice Ao32 t257.length co32) := (blk_cell BK262.out 0).trans rfl
                                  have hcz87_1 : wc.cell? ⟨gb262, 1, none⟩ = some (.int .i64 t260) := (blk_cell BK262.out 1).trans rfl
                                  have hfz87_0 := blk_frozen BK262.out 0
                                  have hfz87_1 := blk_frozen BK262.out 1
                                  have hnb88 := NB252_253.out
                                  have hnc88 := NB253_252.out
                                  have hnb89 := NB252_269.out
                                  have hnc89 := NB269_252.out
                                  have hcz90_0 : wc.cell? ⟨gb252, 0, none⟩ = some (.slice Ao29 x253000_2.length co29) := (blk_cell BK252.out 0).trans rfl
                                  have hcz90_1 : wc.cell? ⟨gb252, 1, none⟩ = some (.int .i64 x253001_2) := (blk_cell BK252.out 1).trans rfl
                                  have hfz90_0 := blk_frozen BK252.out 0
                                  have hfz90_1 := blk_frozen BK252.out 1
                                  go_wp2
                                  go_ret
                                  exact ⟨by first | rfl | (simp [errW_none, errW_some] <;> rfl) | (simp [*, errW_none, errW_some] <;> rfl), by repeat (first | (with_reducible first | exact HB.out | apply below_alloc | apply pw_below_drewN | apply below_drew1 | refine below_set ?_ GE252.out | refine below_set ?_ GE253.out | refine below_set ?_ GE262.out | refine below_set ?_ GE269.out) | exact HB.out)⟩
                                · rw [if_neg c83] at H
                                  have c83b0 : decide ((rd l2 x39_2) ≤ t256) = false := decide_eq_false c83
                                  clear c83
                                  have H' := Aside0.mk H
                                  clear H
                                  have hnb91 := NB262_252.out
                                  have hnc91 := NB252_262.out
                                  have hnb92 := NB262_253.out
                                  have hnc92 := NB253_262.out
                                  have hnb93 := NB262_269.out
                                  have hnc93 := NB269_262.out
                                  have hcz94_0 : wc.cell? ⟨gb262, 0, none⟩ = some (.slice Ao32 t257.length co32) := (blk_cell BK262.out 0).trans rfl
                                  have hcz94_1 : wc.cell? ⟨gb262, 1, none⟩ = some (.int .i64 t260) := (blk_cell BK262.out 1).trans rfl
                                  have hfz94_0 := blk_frozen BK262.out 0
                                  have hfz94_1 := blk_frozen BK262.out 1
                                  have hnb95 := NB252_253.out
                                  have hnc95 := NB253_252.out
                                  have hnb96 := NB252_269.out
                                  have hnc96 := NB269_252.out
                                  have hcz97_0 : wc.cell? ⟨gb252, 0, none⟩ = some (.slice Ao29 x253000_2.length co29) := (blk_cell BK252.out 0).trans rfl
                                  have hcz97_1 : wc.cell? ⟨gb252, 1, none⟩ = some (.int .i64 x253001_2) := (blk_cell BK252.out 1).trans rfl
                                  have hfz97_0 := blk_frozen BK252.out 0
                                  have hfz97_1 := blk_frozen BK252.out 1
                                  try go_wp2
                                  have n0_ := Aside0.mk (Kd.V_drew HO_253000.out)
                                  have n1_ := Aside0.mk (Kd.V_drew HO_254000.out)
                                  have n2_ := Aside0.mk (Kd.V_drew HO_263000.out)
                                  have n3_ := Aside0.mk (Kd.V_drew HO_270000.out)
                                  have n4_ := Aside0.mk (blk_drew BK252.out)
                                  have n5_ := Aside0.mk (blk_drew BK253.out)
                                  have n6_ := Aside0.mk (blk_drew BK262.out)
                                  have n7_ := Aside0.mk (blk_drew BK269.out)
                                  have n8_ := Aside0.mk (below_drew1 HB.out)
                                  clear HO_253000
                                  clear HO_254000
                                  clear HO_263000
                                  clear HO_270000
                                  clear BK252
                                  clear BK253
                                  clear BK262
                                  clear BK269
                                  clear HB
                                  have HO_253000 := n0_
                                  have HO_254000 := n1_
                                  have HO_263000 := n2_
                                  have HO_270000 := n3_
                                  have BK252 := n4_
                                  have BK253 := n5_
                                  have BK262 := n6_
                                  have BK269 := n7_
                                  have HB := n8_
                                  clear n0_ n1_ n2_ n3_ n4_ n5_ n6_ n7_ n8_
                                  refine start_ (n := 4) (S := fun w' => w'.cell? ⟨gb262, 0, none⟩ = some (.slice Ao32 t257.length co32) ∧ w'.cell? ⟨gb262, 1, none⟩ = some (.int .i64 t260) ∧ w'.cell? ⟨gb269, 0, none⟩ = some (.slice Ao41 t264.length co41) ∧ w'.cell? ⟨gb269, 1, none⟩ = some (.int .i64 t267)) (ds := []) #[false, false, false, false] (by kernel_rfl) rfl rfl ⟨(blk_cell BK262.out 0).trans rfl, (blk_cell BK262.out 1).trans rfl, (blk_cell BK269.out 0).trans rfl, (blk_cell BK269.out 1).trans rfl⟩ (fun hHeld => ?_)
                                  generalize wc.drew = w98 at HO_253000 HO_254000 HO_263000 HO_270000 BK252 BK253 BK262 BK269 HB hHeld ⊢
                                  refine take_ (i := 0) (N := some 96) (v := ?_) (a' := ?_) #[true, false, false, false] rfl rfl (by kernel_rfl) (fun _ _ _ h => h) (Or.inl ⟨by rfl, ?_⟩) hHeld ?_ ?_
                                  rotate_left
                                  · rintro w' ⟨s0, s1, s2, s3⟩
                                    go_simp
                                    with_reducible rfl
                                  rotate_left
                                  · simp only [Act.put, List.setIfInBounds_toArray, List.set_cons_zero, List.set_cons_succ, i64_w, i32_w]
                                    rfl
                                  refine take_ (i := 1) (N := some 97) (v := ?_) (a' := ?_) #[true, true, false, false] rfl rfl (by kernel_rfl) (fun _ _ _ h => h) (Or.inl ⟨by rfl, ?_⟩) hHeld ?_ ?_
                                  rotate_left
                                  · rintro w' ⟨s0, s1, s2, s3⟩
                                    go_simp
                                    with_reducible rfl
                                  rotate_left
                                  · simp only [Act.put, List.setIfInBounds_toArray, List.set_cons_zero, List.set_cons_succ, i64_w, i32_w]
                                    rfl
                                  refine one_ (i := 2) (N := none) #[true, true, true, false] rfl rfl (by kernel_rfl) (by decide) (fun K hK => ?_)
                                  have hs99 : w98.cell? ⟨gb252, 0, none⟩ = some (.slice Ao29 x253000_2.length co29) := (blk_cell BK252.out 0).trans rfl
                                  have hfs99 := blk_frozen BK252.out 0
                                  have hns99_1 := NB253_252.out
                                  have hns99_2 := NB262_252.out
                                  have hns99_3 := NB269_252.out
                                  have hms99_1 := NB252_253.out
                                  have hms99_2 := NB252_262.out
                                  have hms99_3 := NB252_269.out
                                  have hs100 : w98.cell? ⟨gb252, 1, none⟩ = some (.int .i64 x253001_2) := (blk_cell BK252.out 1).trans rfl
                                  have hfs100 := blk_frozen BK252.out 1
                                  have hns100_1 := NB253_252.out
                                  have hns100_2 := NB262_252.out
                                  have hns100_3 := NB269_252.out
                                  have hms100_1 := NB252_253.out
                                  have hms100_2 := NB252_262.out
                                  have hms100_3 := NB252_269.out
                                  refine skip_ (w1 := ?_) (by rfl) rfl ?_ ?_
                                  rotate_left
                                  · go_simp
                                    rfl
                                  refine hK.out _ _ ⟨((cell_far (p := ⟨gb252, _, none⟩) NB262_252.out _).trans (((cell_far (p := ⟨gb252, _, none⟩) NB262_252.out _).trans (hHeld.1)))), ((cell_far (p := ⟨gb252, _, none⟩) NB262_252.out _).trans (((cell_far (p := ⟨gb252, _, none⟩) NB262_252.out _).trans (hHeld.2.1)))), ((cell_far (p := ⟨gb252, _, none⟩) NB269_252.out _).trans (((cell_far (p := ⟨gb252, _, none⟩) NB269_252.out _).trans (hHeld.2.2.1)))), ((cell_far (p := ⟨gb252, _, none⟩) NB269_252.out _).trans (((cell_far (p := ⟨gb252, _, none⟩) NB269_252.out _).trans (hHeld.2.2.2))))⟩ (fun hHeld => ?_)
                                  clear hK K
                                  refine one_ (i := 3) (N := none) #[true, true, true, true] rfl rfl (by kernel_rfl) (by decide) (fun K hK => ?_)
                                  have hs101 : w98.cell? ⟨gb253, 0, none⟩ = some (.slice Ao38 x254000_2.length co38) := (blk_cell BK253.out 0).trans rfl
                                  have hfs101 := blk_frozen BK253.out 0
                                  have hns101_0 := NB252_253.out
                                  have hns101_2 := NB262_253.out
                                  have hns101_3 := NB269_253.out
                                  have hms101_0 := NB253_252.out
                                  have hms101_2 := NB253_262.out
                                  have hms101_3 := NB253_269.out
                                  have hs102 : w98.cell? ⟨gb253, 1, none⟩ = some (.int .i64 x254001_2) := (blk_cell BK253.out 1).trans rfl
                                  have hfs102 := blk_frozen BK253.out 1
                                  have hns102_0 := NB252_253.out
                                  have hns102_2 := NB262_253.out
                                  have hns102_3 := NB269_253.out
                                  have hms102_0 := NB253_252.out
                                  have hms102_2 := NB253_262.out
                                  have hms102_3 := NB253_269.out
                                  refine skip_ (w1 := ?_) (by rfl) rfl ?_ ?_
                                  rotate_left
                                  · go_simp
                                    rfl
                                  refine hK.out _ _ ⟨((cell_far (p := ⟨gb253, _, none⟩) NB262_253.out _).trans (((cell_far (p := ⟨gb253, _, none⟩) NB262_253.out _).trans (hHeld.1)))), ((cell_far (p := ⟨gb253, _, none⟩) NB262_253.out _).trans (((cell_far (p := ⟨gb253, _, none⟩) NB262_253.out _).trans (hHeld.2.1)))), ((cell_far (p := ⟨gb253, _, none⟩) NB269_253.out _).trans (((cell_far (p := ⟨gb253, _, none⟩) NB269_253.out _).trans (hHeld.2.2.1)))), ((cell_far (p := ⟨gb253, _, none⟩) NB269_253.out _).trans (((cell_far (p := ⟨gb253, _, none⟩) NB269_253.out _).trans (hHeld.2.2.2))))⟩ (fun hHeld => ?_)
                                  clear hK K
                                  refine done_ (by kernel_rfl) ?_
                                  try go_wp2
                                  go_roundg kj25
                                  case measure => have := HJ3.out; have := HK2.out; have := HJ25.out; omega
                                  case rel => exact ⟨(wrap64 (x39_2 + 1)), (t257), (t260), (t264), (t267), (.slice Ao32 t257.length co32), (.slice Ao41 t264.length co41), (by first | rfl | (simp; done) | (simp [*]; done)), H', ⟨by have := HJ3.out; have := HK2.out; have := HJ25.out; omega⟩, ⟨by (with_reducible repeat (first | apply Kd.V_alloc | apply Kd.V_drewN | apply Kd.V_drew)); exact Kd.V_mono (Kd.V_far (p := ⟨gb253, 1, none⟩) (Kd.V_far (p := ⟨gb253, 0, none⟩) (Kd.V_far (p := ⟨gb252, 1, none⟩) (Kd.V_far (p := ⟨gb252, 0, none⟩) (Kd.V_mono (Kd.V_mono HO_263000.out (fun k_ hk => (⟨hk, hk.2.1⟩ : _ ∧ k_ ≠ gb252))) (fun k_ hk => (⟨hk, hk.1.2.2.1⟩ : _ ∧ k_ ≠ gb253))) (fun _ hk => hk.1.2) (.slice Ao32 t257.length co32)) (fun _ hk => hk.1.2) (.int .i64 t260)) (fun _ hk => hk.2) (.slice Ao41 t264.length co41)) (fun _ hk => hk.2) (.int .i64 t267)) (fun _ hk => ⟨hk.1.1.1, ⟨hk.1.1.2.1, hk.1.1.2.2.1⟩⟩)⟩, ⟨by (with_reducible repeat (first | apply Kd.V_alloc | apply Kd.V_drewN | apply Kd.V_drew)); exact Kd.V_mono (Kd.V_far (p := ⟨gb253, 1, none⟩) (Kd.V_far (p := ⟨gb253, 0, none⟩) (Kd.V_far (p := ⟨gb252, 1, none⟩) (Kd.V_far (p := ⟨gb252, 0, none⟩) (Kd.V_mono (Kd.V_mono HO_270000.out (fun k_ hk => (⟨hk, hk.2.1⟩ : _ ∧ k_ ≠ gb252))) (fun k_ hk => (⟨hk, hk.1.2.2.1⟩ : _ ∧ k_ ≠ gb253))) (fun _ hk => hk.1.2) (.slice Ao32 t257.length co32)) (fun _ hk => hk.1.2) (.int .i64 t260)) (fun _ hk => hk.2) (.slice Ao41 t264.length co41)) (fun _ hk => hk.2) (.int .i64 t267)) (fun _ hk => ⟨hk.1.1.1, ⟨hk.1.1.2.1, hk.1.1.2.2.1⟩⟩)⟩, ⟨by (with_reducible repeat (first | refine blk_drewN ?_ _ | refine blk_drew ?_ | refine blk_alloc ?_ _)); refine blk_far ?_ NB252_253.out _; (with_reducible repeat (first | refine blk_drewN ?_ _ | refine blk_drew ?_ | refine blk_alloc ?_ _)); refine blk_far ?_ NB252_253.out _; (with_reducible repeat (first | refine blk_drewN ?_ _ | refine blk_drew ?_ | refine blk_alloc ?_ _)); refine blk_put (cs := #[.slice Ao32 t257.length co32, .int .i64 x253001_2]) ?_ 1 _ rfl; (with_reducible repeat (first | refine blk_drewN ?_ _ | refine blk_drew ?_ | refine blk_alloc ?_ _)); refine blk_put (cs := #[.slice Ao29 x253000_2.length co29, .int .i64 x253001_2]) ?_ 0 _ rfl; (with_reducible repeat (first | refine blk_drewN ?_ _ | refine blk_drew ?_ | refine blk_alloc ?_ _)); exact BK252.out⟩, ⟨by (with_reducible repeat (first | refine blk_drewN ?_ _ | refine blk_drew ?_ | refine blk_alloc ?_ _)); refine blk_put (cs := #[.slice Ao41 t264.length co41, .int .i64 x254001_2]) ?_ 1 _ rfl; (with_reducible repeat (first | refine blk_drewN ?_ _ | refine blk_drew ?_ | refine blk_alloc ?_ _)); refine blk_put (cs := #[.slice Ao38 x254000_2.length co38, .int .i64 x254001_2]) ?_ 0 _ rfl; (with_reducible repeat (first | refine blk_drewN ?_ _ | refine blk_drew ?_ | refine blk_alloc ?_ _)); refine blk_far ?_ NB253_252.out _; (with_reducible repeat (first | refine blk_drewN ?_ _ | refine blk_drew ?_ | refine blk_alloc ?_ _)); refine blk_far ?_ NB253_252.out _; (with_reducible repeat (first | refine blk_drewN ?_ _ | refine blk_drew ?_ | refine blk_alloc ?_ _)); exact BK253.out⟩, ⟨by repeat (first | (with_reducible first | exact HB.out | apply below_alloc | apply pw_below_drewN | apply below_drew1 | refine below_set ?_ GE252.out | refine below_set ?_ GE253.out | refine below_set ?_ GE262.out | refine below_set ?_ GE269.out) | exact HB.out)⟩⟩
                            · rw [if_neg c74] at H
                              have c74b0 : (t261 == 0) = false := beq_eq_false_iff_ne.mpr c74
                              have c74b1 : (t261 != 0) = true := bne_iff_ne.mpr c74
                              replace H := Option.bind_eq_some_iff.mp H
                              obtain ⟨t270, A1030, H⟩ := H
                              replace H : (some t270) = some r := H
                              have A103 := Aside0.mk A1030
                              clear A1030
                              obtain rfl := Option.some.inj H
                              go_wp2_with (first | ((with_reducible refine gate_callee (f := 9) rfl ?_); refine goesL_ (some 99) rfl rfl Try.func9 (by kernel_rfl) rfl #[] rfl (by (try simp only [List.map_toArray, List.map_cons, List.map_nil]); first | done | rfl | (simp only [List.length_drop, List.length_take]; rfl)) ?_; (with_reducible refine (samphirelaw07_awake.calls kj25  t270 _ A103.out).mono ?_); rintro e w104 ⟨rfl, hb⟩; refine ⟨_, rfl, ?_⟩; have n0_ := Aside0.mk (Kd.V_below (by (with_reducible repeat (first | apply Kd.V_alloc | apply Kd.V_drewN | apply Kd.V_drew)); exact HO_253000.out) hb); have n1_ := Aside0.mk (Kd.V_below (by (with_reducible repeat (first | apply Kd.V_alloc | apply Kd.V_drewN | apply Kd.V_drew)); exact HO_254000.out) hb); have n2_ := Aside0.mk (Kd.V_below (by (with_reducible repeat (first | apply Kd.V_alloc | apply Kd.V_drewN | apply Kd.V_drew)); exact HO_263000.out) hb); have n3_ := Aside0.mk (Kd.V_below (by (with_reducible repeat (first | apply Kd.V_alloc | apply Kd.V_drewN | apply Kd.V_drew)); exact HO_270000.out) hb); have n4_ := Aside0.mk (blk_below (g := gb252) (o := .cells #[.slice Ao29 x253000_2.length co29, .int .i64 x253001_2] 28 (0, 0)) (by (with_reducible repeat (first | refine blk_drewN ?_ _ | refine blk_drew ?_ | refine blk_alloc ?_ _)); exact BK252.out) hb); have n5_ := Aside0.mk (blk_below (g := gb253) (o := .cells #[.slice Ao38 x254000_2.length co38, .int .i64 x254001_2] 28 (0, 0)) (by (with_reducible repeat (first | refine blk_drewN ?_ _ | refine blk_drew ?_ | refine blk_alloc ?_ _)); exact BK253.out) hb); have n6_ := Aside0.mk (blk_below (g := gb262) (o := .cells #[.slice Ao32 t257.length co32, .int .i64 t260] 28 (0, 0)) (by (with_reducible repeat (first | refine blk_drewN ?_ _ | refine blk_drew ?_ | refine blk_alloc ?_ _)); exact BK262.out) hb); have n7_ := Aside0.mk (blk_below (g := gb269) (o := .cells #[.slice Ao41 t264.length co41, .int .i64 t267] 28 (0, 0)) (by (with_reducible repeat (first | refine blk_drewN ?_ _ | refine blk_drew ?_ | refine blk_alloc ?_ _)); exact BK269.out) hb); have n8_ := Aside0.mk (below_step (by repeat (first | (with_reducible first | exact HB.out | apply below_alloc | apply pw_below_drewN | apply below_drew1 | refine below_set ?_ GE252.out | refine below_set ?_ GE253.out | refine below_set ?_ GE262.out | refine below_set ?_ GE269.out) | exact HB.out)) hb); clear HO_253000; clear HO_254000; clear HO_263000; clear HO_270000; clear BK252; clear BK253; clear BK262; clear BK269; clear HB; have HO_253000 := n0_; have HO_254000 := n1_; have HO_263000 := n2_; have HO_270000 := n3_; have BK252 := n4_; have BK253 := n5_; have BK262 := n6_; have BK269 := n7_; have HB := n8_; clear n0_ n1_ n2_ n3_ n4_ n5_ n6_ n7_ n8_; (try clear hb); (try clear hb2); (try clear hk); (try clear hi)))
                              go_ret
                              exact ⟨by first | rfl | (simp [errW_none, errW_some] <;> rfl) | (simp [*, errW_none, errW_some] <;> rfl), by repeat (first | (with_reducible first | exact HB.out | apply below_alloc | apply pw_below_drewN | apply below_drew1 | refine below_set ?_ GE252.out | refine below_set ?_ GE253.out | refine below_set ?_ GE262.out | refine below_set ?_ GE269.out) | exact HB.out)⟩
                    · rw [if_neg c23] at H
                      exact absurd H (by simp)
                  · rw [if_neg c22] at H
                    exact absurd H (by simp)
                · rw [if_neg c21] at H
                  have c21b0 : decide (x39_2 < (l2.length : Int)) = false := decide_eq_false c21
                  clear c21
                  replace H := Option.bind_eq_some_iff.mp H
                  obtain ⟨t254, A1050, H⟩ := H
                  replace H : (some t254) = some r := H
                  have A105 := Aside0.mk A1050
                  clear A1050
                  obtain rfl := Option.some.inj H
                  go_wp2_with (first | ((with_reducible refine gate_callee (f := 9) rfl ?_); refine goesL_ (some 99) rfl rfl Try.func9 (by kernel_rfl) rfl #[] rfl (by (try simp only [List.map_toArray, List.map_cons, List.map_nil]); first | done | rfl | (simp only [List.length_drop, List.length_take]; rfl)) ?_; (with_reducible refine (samphirelaw07_awake.calls k2  t254 _ A105.out).mono ?_); rintro e w106 ⟨rfl, hb⟩; refine ⟨_, rfl, ?_⟩; have n0_ := Aside0.mk (Kd.V_below (by (with_reducible repeat (first | apply Kd.V_alloc | apply Kd.V_drewN | apply Kd.V_drew)); exact HO_253000.out) hb); have n1_ := Aside0.mk (Kd.V_below (by (with_reducible repeat (first | apply Kd.V_alloc | apply Kd.V_drewN | apply Kd.V_drew)); exact HO_254000.out) hb); have n2_ := Aside0.mk (blk_below (g := gb252) (o := .cells #[u253000, .int .i64 x253001_2] 28 (0, 0)) (by (with_reducible repeat (first | refine blk_drewN ?_ _ | refine blk_drew ?_ | refine blk_alloc ?_ _)); exact BK252.out) hb); have n3_ := Aside0.mk (blk_below (g := gb253) (o := .cells #[u254000, .int .i64 x254001_2] 28 (0, 0)) (by (with_reducible repeat (first | refine blk_drewN ?_ _ | refine blk_drew ?_ | refine blk_alloc ?_ _)); exact BK253.out) hb); have n4_ := Aside0.mk (below_step (by repeat (first | (with_reducible first | exact HB.out | apply below_alloc | apply pw_below_drewN | apply below_drew1 | refine below_set ?_ GE252.out | refine below_set ?_ GE253.out) | exact HB.out)) hb); clear HO_253000; clear HO_254000; clear BK252; clear BK253; clear HB; have HO_253000 := n0_; have HO_254000 := n1_; have BK252 := n2_; have BK253 := n3_; have HB := n4_; clear n0_ n1_ n2_ n3_ n4_; (try clear hb); (try clear hb2); (try clear hk); (try clear hi)))
                  go_ret
                  exact ⟨by first | rfl | (simp [errW_none, errW_some] <;> rfl) | (simp [*, errW_none, errW_some] <;> rfl), by repeat (first | (with_reducible first | exact HB.out | apply below_alloc | apply pw_below_drewN | apply below_drew1 | refine below_set ?_ GE252.out | refine below_set ?_ GE253.out) | exact HB.out)⟩
          · rw [if_neg c10] at H
            exact absurd H (by simp)
        · rw [if_neg c9] at H
          exact absurd H (by simp)

end Go.Proofs.Ytpgfadljcmakfaa.O
