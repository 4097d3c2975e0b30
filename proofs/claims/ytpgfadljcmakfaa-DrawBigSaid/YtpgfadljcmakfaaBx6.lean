/- Walks of Go functions, each against a plain function over numbers and lists; written by this session's program printx.py over the kit's print; no condition but those that each theorem states. -/
import Derived.Test.YtpgfadljcmakfaaBx0
import Derived.Test.YtpgfadljcmakfaaBx5
namespace Go.Proofs.Ytpgfadljcmakfaa.B
open Go.Proofs.Ytpgfadljcmakfaa.Q Go.RowKit Go.Proofs.YtpgfadljcmakfaaW.PrintWords Go.Proofs.YtpgfadljcmakfaaW.PrintLast Go.Proofs.YtpgfadljcmakfaaW.PrintMore
attribute [local go_sem] max2_int min2_int max_two min_two max_three min_three max_four min_four   -- for this text's walks alone
set_option linter.unusedVariables false
set_option linter.unusedSimpArgs false

/-! ### samphireref02_Mul: function 18 -/
mutual
def samphireref02_Mul.l0 : Nat → Int → Int → List Int → List Int → List Int → Int → Option (List Int)
 | 0, _, _, _, _, _, _ => none
 | k + 1, x5, x6, x7, x8, x9, x10 => if x10 < x5 then (samphireref02_Mul.l1 k x5 x6 x7 x8 x9 x10 0 0) else ((samphireref02_Whole.f k x9).bind fun t294 => (some t294))
def samphireref02_Mul.l1 : Nat → Int → Int → List Int → List Int → List Int → Int → Int → Int → Option (List Int)
 | 0, _, _, _, _, _, _, _, _ => none
 | k + 1, x5, x6, x7, x8, x9, x10, x11, x12 => if x12 < x6 then (if 0 ≤ (wrap64 (x10 + x12)) then (if (wrap64 (x10 + x12)) < (x9.length : Int) then (if 0 ≤ x10 then (if x10 < (x7.length : Int) then (if 0 ≤ x12 then (if x12 < (x8.length : Int) then (samphireref02_Mul.l1 k x5 x6 x7 x8 (x9.set ((wrap64 (x10 + x12)) : Int).toNat (Int.tmod (IntKind.u64.wrap ((IntKind.u64.wrap ((rd x9 (wrap64 (x10 + x12))) + (IntKind.u64.wrap ((rd x7 x10) * (rd x8 x12))))) + x11)) 65536)) x10 (IntKind.u64.wrap (Int.tdiv (IntKind.u64.wrap ((IntKind.u64.wrap ((rd x9 (wrap64 (x10 + x12))) + (IntKind.u64.wrap ((rd x7 x10) * (rd x8 x12))))) + x11)) 65536)) (wrap64 (x12 + 1))) else (none)) else (none)) else (none)) else (none)) else (none)) else (none)) else (if 0 ≤ (wrap64 (x10 + x6)) then (if (wrap64 (x10 + x6)) < (x9.length : Int) then (samphireref02_Mul.l0 k x5 x6 x7 x8 (x9.set ((wrap64 (x10 + x6)) : Int).toNat (IntKind.u64.wrap ((rd x9 (wrap64 (x10 + x6))) + x11))) (wrap64 (x10 + 1))) else (none)) else (none))
end
def samphireref02_Mul.f (k : Nat) (l0 : List Int) (l1 : List Int) : Option (List Int) := (samphireref02_Half.f k l0 (wrap64 (2 * (l0.length : Int)))).bind fun t285 => ((samphireref02_Half.f k l1 (wrap64 (2 * (l1.length : Int)))).bind fun t288 => (if 0 ≤ (wrap64 ((wrap64 ((wrap64 (2 * (l0.length : Int))) + (wrap64 (2 * (l1.length : Int))))) + 2)) then (if (wrap64 ((wrap64 ((wrap64 (2 * (l0.length : Int))) + (wrap64 (2 * (l1.length : Int))))) + 2) : Int).toNat ≤ 35184372088832 then (samphireref02_Mul.l0 k (wrap64 (2 * (l0.length : Int))) (wrap64 (2 * (l1.length : Int))) t285 t288 (List.replicate (wrap64 ((wrap64 ((wrap64 (2 * (l0.length : Int))) + (wrap64 (2 * (l1.length : Int))))) + 2) : Int).toNat 0) 0) else (none)) else (none)))
theorem samphireref02_Mul.mono_l : ∀ k, (∀ y0 y1 y2 y3 y4 y5, LeO (samphireref02_Mul.l0 k y0 y1 y2 y3 y4 y5) (samphireref02_Mul.l0 (k + 1) y0 y1 y2 y3 y4 y5)) ∧ (∀ y0 y1 y2 y3 y4 y5 y6 y7, LeO (samphireref02_Mul.l1 k y0 y1 y2 y3 y4 y5 y6 y7) (samphireref02_Mul.l1 (k + 1) y0 y1 y2 y3 y4 y5 y6 y7))
 | 0 => ⟨fun _ _ _ _ _ _ r h => by simp [samphireref02_Mul.l0] at h, fun _ _ _ _ _ _ _ _ r h => by simp [samphireref02_Mul.l1] at h⟩
 | k + 1 => by
  obtain ⟨ih0, ih1⟩ := samphireref02_Mul.mono_l k
  refine ⟨?_, ?_⟩
  ·
   intro y0 y1 y2 y3 y4 y5
   unfold samphireref02_Mul.l0
   repeat' first
   | (with_reducible exact ih0 _ _ _ _ _ _)
   | (with_reducible exact ih1 _ _ _ _ _ _ _ _)
   | (with_reducible exact samphireref02_Half.mono _ _ _)
   | (with_reducible exact samphireref02_Whole.mono _ _)
   | (with_reducible exact LeO.refl _)
   | (with_reducible exact LeO.none _)
   | (with_reducible refine LeO.ite ?_ ?_)
   | (with_reducible refine LeO.bind ?_ (fun _ => ?_))
   | exact ih0 _ _ _ _ _ _
   | exact ih1 _ _ _ _ _ _ _ _
   | exact samphireref02_Half.mono _ _ _
   | exact samphireref02_Whole.mono _ _
   | exact LeO.none _
   | refine LeO.ite ?_ ?_
   | refine LeO.bind ?_ (fun _ => ?_)
  ·
   intro y0 y1 y2 y3 y4 y5 y6 y7
   unfold samphireref02_Mul.l1
   repeat' first
   | (with_reducible exact ih0 _ _ _ _ _ _)
   | (with_reducible exact ih1 _ _ _ _ _ _ _ _)
   | (with_reducible exact samphireref02_Half.mono _ _ _)
   | (with_reducible exact samphireref02_Whole.mono _ _)
   | (with_reducible exact LeO.refl _)
   | (with_reducible exact LeO.none _)
   | (with_reducible refine LeO.ite ?_ ?_)
   | (with_reducible refine LeO.bind ?_ (fun _ => ?_))
   | exact ih0 _ _ _ _ _ _
   | exact ih1 _ _ _ _ _ _ _ _
   | exact samphireref02_Half.mono _ _ _
   | exact samphireref02_Whole.mono _ _
   | exact LeO.none _
   | refine LeO.ite ?_ ?_
   | refine LeO.bind ?_ (fun _ => ?_)
theorem samphireref02_Mul.mono : ∀ a0 a1 k, LeO (samphireref02_Mul.f k a0 a1) (samphireref02_Mul.f (k + 1) a0 a1) := by
 intro a0 a1 k
 obtain ⟨ih0, ih1⟩ := samphireref02_Mul.mono_l k
 unfold samphireref02_Mul.f
 repeat' first
   | (with_reducible exact ih0 _ _ _ _ _ _)
   | (with_reducible exact ih1 _ _ _ _ _ _ _ _)
   | (with_reducible exact samphireref02_Half.mono _ _ _)
   | (with_reducible exact samphireref02_Whole.mono _ _)
   | (with_reducible exact LeO.refl _)
   | (with_reducible exact LeO.none _)
   | (with_reducible refine LeO.ite ?_ ?_)
   | (with_reducible refine LeO.bind ?_ (fun _ => ?_))
   | exact ih0 _ _ _ _ _ _
   | exact ih1 _ _ _ _ _ _ _ _
   | exact samphireref02_Half.mono _ _ _
   | exact samphireref02_Whole.mono _ _
   | exact LeO.none _
   | refine LeO.ite ?_ ?_
   | refine LeO.bind ?_ (fun _ => ?_)
set_option maxHeartbeats 8000000 in
set_option maxRecDepth 100000 in
theorem samphireref02_Mul.calls (k : Nat) (A0 : Option Addr) (c0 : Nat) (l0 : List Int) (A1 : Option Addr) (c1 : Nat) (l1 : List Int) (r : List Int) (w : World) (hr0 : Kd.C (Kd.int .u32) w A0 l0.length l0) (hc0 : l0.length ≤ c0) (hr1 : Kd.C (Kd.int .u32) w A1 l1.length l1) (hc1 : l1.length ≤ c1) (h : samphireref02_Mul.f k l0 l1 = some r) :
  Calls Try.prog 18 #[.slice A0 l0.length c0, .slice A1 l1.length c1] w fun e w' => ∃ v0_ : Value, e = .returned (v0_) ∧ Kd.R (Kd.int .u32) 48 w' w.heap.size (fun _ => True) v0_ r ∧ Below w.heap.size w w' := by
 have HR0 := Aside0.mk hr0
 have HC0 := Aside0.mk hc0
 clear hr0 hc0
 have HR1 := Aside0.mk hr1
 have HC1 := Aside0.mk hc1
 clear hr1 hc1
 have HB := Aside0.mk (Below.refl w.heap.size w)
 have H : ((samphireref02_Half.f k l0 (wrap64 (2 * (l0.length : Int)))).bind fun t285 => ((samphireref02_Half.f k l1 (wrap64 (2 * (l1.length : Int)))).bind fun t288 => (if 0 ≤ (wrap64 ((wrap64 ((wrap64 (2 * (l0.length : Int))) + (wrap64 (2 * (l1.length : Int))))) + 2)) then (if (wrap64 ((wrap64 ((wrap64 (2 * (l0.length : Int))) + (wrap64 (2 * (l1.length : Int))))) + 2) : Int).toNat ≤ 35184372088832 then (samphireref02_Mul.l0 k (wrap64 (2 * (l0.length : Int))) (wrap64 (2 * (l1.length : Int))) t285 t288 (List.replicate (wrap64 ((wrap64 ((wrap64 (2 * (l0.length : Int))) + (wrap64 (2 * (l1.length : Int))))) + 2) : Int).toNat 0) 0) else (none)) else (none)))) = some r := h
 clear h
 replace H := Option.bind_eq_some_iff.mp H
 obtain ⟨t285, A30, H⟩ := H
 replace H : ((samphireref02_Half.f k l1 (wrap64 (2 * (l1.length : Int)))).bind fun t288 => (if 0 ≤ (wrap64 ((wrap64 ((wrap64 (2 * (l0.length : Int))) + (wrap64 (2 * (l1.length : Int))))) + 2)) then (if (wrap64 ((wrap64 ((wrap64 (2 * (l0.length : Int))) + (wrap64 (2 * (l1.length : Int))))) + 2) : Int).toNat ≤ 35184372088832 then (samphireref02_Mul.l0 k (wrap64 (2 * (l0.length : Int))) (wrap64 (2 * (l1.length : Int))) t285 t288 (List.replicate (wrap64 ((wrap64 ((wrap64 (2 * (l0.length : Int))) + (wrap64 (2 * (l1.length : Int))))) + 2) : Int).toNat 0) 0) else (none)) else (none))) = some r := H
 have A3 := Aside0.mk A30
 clear A30
 replace H := Option.bind_eq_some_iff.mp H
 obtain ⟨t288, A40, H⟩ := H
 replace H : (if 0 ≤ (wrap64 ((wrap64 ((wrap64 (2 * (l0.length : Int))) + (wrap64 (2 * (l1.length : Int))))) + 2)) then (if (wrap64 ((wrap64 ((wrap64 (2 * (l0.length : Int))) + (wrap64 (2 * (l1.length : Int))))) + 2) : Int).toNat ≤ 35184372088832 then (samphireref02_Mul.l0 k (wrap64 (2 * (l0.length : Int))) (wrap64 (2 * (l1.length : Int))) t285 t288 (List.replicate (wrap64 ((wrap64 ((wrap64 (2 * (l0.length : Int))) + (wrap64 (2 * (l1.length : Int))))) + 2) : Int).toNat 0) 0) else (none)) else (none)) = some r := H
 have A4 := Aside0.mk A40
 clear A40
 obtain ⟨ji5, hji5⟩ : ∃ j_ : Int, (wrap64 ((wrap64 ((wrap64 (2 * (l0.length : Int))) + (wrap64 (2 * (l1.length : Int))))) + 2)) = j_ := ⟨_, rfl⟩
 replace H : (if 0 ≤ (ji5) then (if (ji5 : Int).toNat ≤ 35184372088832 then (samphireref02_Mul.l0 k (wrap64 (2 * (l0.length : Int))) (wrap64 (2 * (l1.length : Int))) t285 t288 (List.replicate (ji5 : Int).toNat 0) 0) else (none)) else (none)) = some r := by first | (rw [hji5] at H; exact H) | (simp only [hji5] at H ⊢; exact H)
 (try rw [hji5] at A3)
 (try rw [hji5] at A4)
 have hji5w : (IntKind.i64.wrap ((wrap64 ((wrap64 (2 * (l0.length : Int))) + (wrap64 (2 * (l1.length : Int))))) + 2)) = ji5 := (i64_w _).trans hji5
 by_cases c6 : 0 ≤ (ji5)
 ·
  rw [if_pos c6] at H
  have c6b0 := eq_true c6
  have c6b1 : decide (0 ≤ (ji5)) = true := decide_eq_true c6
  clear c6
  by_cases c7 : (ji5 : Int).toNat ≤ 35184372088832
  ·
   rw [if_pos c7] at H
   have c7b0 := eq_true c7
   have c7b1 : decide ((ji5 : Int).toNat ≤ 35184372088832) = true := decide_eq_true c7
   clear c7
   obtain ⟨y291, hy291⟩ : ∃ y_ : List Int, y_ = (List.replicate (ji5 : Int).toNat 0) := ⟨_, rfl⟩
   replace H : (samphireref02_Mul.l0 k (wrap64 (2 * (l0.length : Int))) (wrap64 (2 * (l1.length : Int))) t285 t288 y291 0) = some r := by first | (rw [hy291]; with_reducible exact H) | (have H2_ := (Option.bind_some _ _).symm.trans H; rw [hy291]; with_reducible exact H2_) | (have H2_ := (Option.bind_some _ _).symm.trans H; with_reducible exact H2_) | with_reducible exact H | (rw [hy291]; exact H) | exact H
   have Ny291 := Aside0.mk hy291
   clear hy291
   have H' := Aside0.mk H
   clear H
   go_enter Try.func18, Try.ntmps18
   go_wp2_with (first | (go_at_call 31; (with_reducible refine (samphireref02_Half.calls k _ _ l0 (wrap64 (2 * (l0.length : Int))) t285 _ ?side1 ?side2 A3.out).mono ?_); (case side1 => repeat (first | exact HR0.out | (with_reducible refine Kd.C_alloc ?_ _) | (with_reducible refine Kd.C_drewN ?_ _) | (with_reducible refine Kd.C_drew ?_))); (case side2 => exact HC0.out); rintro e w8 ⟨v286, rfl, ho0, hb⟩; have n0_ := Aside0.mk (Kd.R_lower ho0 (below_size (by repeat (first | (with_reducible first | exact HB.out | apply below_alloc | apply pw_below_drewN | apply below_drew1) | exact HB.out)))); have n1_ := Aside0.mk (below_step (by repeat (first | (with_reducible first | exact HB.out | apply below_alloc | apply pw_below_drewN | apply below_drew1) | exact HB.out)) hb); clear HB; have HO287 := n0_; have HB := n1_; clear n0_ n1_; (try clear hb); (try clear hb2); (try clear hk); (try clear hi); (try clear ho0)) | (go_at_call 31; (with_reducible refine (samphireref02_Half.calls k _ _ l1 (wrap64 (2 * (l1.length : Int))) t288 _ ?side1 ?side2 A4.out).mono ?_); (case side1 => repeat (first | exact (Kd.C_below HR1.out HB.out) | (with_reducible refine Kd.C_alloc ?_ _) | (with_reducible refine Kd.C_drewN ?_ _) | (with_reducible refine Kd.C_drew ?_))); (case side2 => exact HC1.out); rintro e w9 ⟨v289, rfl, ho0, hb⟩; have n0_ := Aside0.mk (Kd.R_elder' (by (with_reducible repeat (first | apply Kd.R_alloc | apply Kd.R_drewN | apply Kd.R_drew)); exact HO287.out) (Kd.R_base ho0) hb); have n1_ := Aside0.mk (Kd.R_lower (Kd.R_new' ho0 (Kd.R_lt (by (with_reducible repeat (first | apply Kd.R_alloc | apply Kd.R_drewN | apply Kd.R_drew)); exact HO287.out))) (below_size (by repeat (first | (with_reducible first | exact HB.out | apply below_alloc | apply pw_below_drewN | apply below_drew1) | exact HB.out)))); have n2_ := Aside0.mk (below_step (by repeat (first | (with_reducible first | exact HB.out | apply below_alloc | apply pw_below_drewN | apply below_drew1) | exact HB.out)) hb); clear HO287; clear HB; have HO287 := n0_; have HO290 := n1_; have HB := n2_; clear n0_ n1_ n2_; (try clear hb); (try clear hb2); (try clear hk); (try clear hi); (try clear ho0)) | ((with_reducible refine gate_dst (N := 30) rfl ?_); refine Kd.R_make (Kd.int .u64) _ 23 rfl (N := 30) rfl 22 _ _ rfl ji5 rfl rfl Try.underlying22 (.int .u64 0) 8 info23 rfl (by decide) (by omega) 0 (ok := fun _ => True) (okp := fun _ => True) rfl (fun _ hk => hk) trivial (of_decide_eq_true (by first | (with_reducible assumption) | assumption)) (Nat.le_trans (Nat.mul_le_mul_right _ (of_decide_eq_true (by first | (with_reducible assumption) | assumption) : ji5.toNat ≤ 35184372088832)) (by omega)) (Below.refl _ _) (Nat.le_refl _) ?_; intro v292 w10 ho11 hb hg_ hnew_; clear hg_ hnew_; (first | rw [← Ny291.out] at ho11 | (simp only [Int.reduceToNat] at ho11; rw [← Ny291.out] at ho11)); have n0_ := Aside0.mk (Kd.R_elder' (by (with_reducible repeat (first | apply Kd.R_alloc | apply Kd.R_drewN | apply Kd.R_drew)); exact HO287.out) (Kd.R_base ho11) hb); have n1_ := Aside0.mk (Kd.R_elder' (by (with_reducible repeat (first | apply Kd.R_alloc | apply Kd.R_drewN | apply Kd.R_drew)); exact HO290.out) (Kd.R_base ho11) hb); have n2_ := Aside0.mk (Kd.R_lower (Kd.R_new' (Kd.R_new' ho11 (Kd.R_lt (by (with_reducible repeat (first | apply Kd.R_alloc | apply Kd.R_drewN | apply Kd.R_drew)); exact HO287.out))) (Kd.R_lt (by (with_reducible repeat (first | apply Kd.R_alloc | apply Kd.R_drewN | apply Kd.R_drew)); exact HO290.out))) (below_size (by repeat (first | (with_reducible first | exact HB.out | apply below_alloc | apply pw_below_drewN | apply below_drew1) | exact HB.out)))); have n3_ := Aside0.mk (below_step (by repeat (first | (with_reducible first | exact HB.out | apply below_alloc | apply pw_below_drewN | apply below_drew1) | exact HB.out)) hb); clear HO287; clear HO290; clear HB; have HO287 := n0_; have HO290 := n1_; have HO293 := n2_; have HB := n3_; clear n0_ n1_ n2_ n3_; clear hb ho11))
   repeat (go_quiet (first | (go_at_call 31; (with_reducible refine (samphireref02_Half.calls k _ _ l0 (wrap64 (2 * (l0.length : Int))) t285 _ ?side1 ?side2 A3.out).mono ?_); (case side1 => repeat (first | exact HR0.out | (with_reducible refine Kd.C_alloc ?_ _) | (with_reducible refine Kd.C_drewN ?_ _) | (with_reducible refine Kd.C_drew ?_))); (case side2 => exact HC0.out); rintro e w8 ⟨v286, rfl, ho0, hb⟩; have n0_ := Aside0.mk (Kd.R_lower ho0 (below_size (by repeat (first | (with_reducible first | exact HB.out | apply below_alloc | apply pw_below_drewN | apply below_drew1) | exact HB.out)))); have n1_ := Aside0.mk (below_step (by repeat (first | (with_reducible first | exact HB.out | apply below_alloc | apply pw_below_drewN | apply below_drew1) | exact HB.out)) hb); clear HB; have HO287 := n0_; have HB := n1_; clear n0_ n1_; (try clear hb); (try clear hb2); (try clear hk); (try clear hi); (try clear ho0)) | (go_at_call 31; (with_reducible refine (samphireref02_Half.calls k _ _ l1 (wrap64 (2 * (l1.length : Int))) t288 _ ?side1 ?side2 A4.out).mono ?_); (case side1 => repeat (first | exact (Kd.C_below HR1.out HB.out) | (with_reducible refine Kd.C_alloc ?_ _) | (with_reducible refine Kd.C_drewN ?_ _) | (with_reducible refine Kd.C_drew ?_))); (case side2 => exact HC1.out); rintro e w9 ⟨v289, rfl, ho0, hb⟩; have n0_ := Aside0.mk (Kd.R_elder' (by (with_reducible repeat (first | apply Kd.R_alloc | apply Kd.R_drewN | apply Kd.R_drew)); exact HO287.out) (Kd.R_base ho0) hb); have n1_ := Aside0.mk (Kd.R_lower (Kd.R_new' ho0 (Kd.R_lt (by (with_reducible repeat (first | apply Kd.R_alloc | apply Kd.R_drewN | apply Kd.R_drew)); exact HO287.out))) (below_size (by repeat (first | (with_reducible first | exact HB.out | apply below_alloc | apply pw_below_drewN | apply below_drew1) | exact HB.out)))); have n2_ := Aside0.mk (below_step (by repeat (first | (with_reducible first | exact HB.out | apply below_alloc | apply pw_below_drewN | apply below_drew1) | exact HB.out)) hb); clear HO287; clear HB; have HO287 := n0_; have HO290 := n1_; have HB := n2_; clear n0_ n1_ n2_; (try clear hb); (try clear hb2); (try clear hk); (try clear hi); (try clear ho0)) | ((with_reducible refine gate_dst (N := 30) rfl ?_); refine Kd.R_make (Kd.int .u64) _ 23 rfl (N := 30) rfl 22 _ _ rfl ji5 rfl rfl Try.underlying22 (.int .u64 0) 8 info23 rfl (by decide) (by omega) 0 (ok := fun _ => True) (okp := fun _ => True) rfl (fun _ hk => hk) trivial (of_decide_eq_true (by first | (with_reducible assumption) | assumption)) (Nat.le_trans (Nat.mul_le_mul_right _ (of_decide_eq_true (by first | (with_reducible assumption) | assumption) : ji5.toNat ≤ 35184372088832)) (by omega)) (Below.refl _ _) (Nat.le_refl _) ?_; intro v292 w10 ho11 hb hg_ hnew_; clear hg_ hnew_; (first | rw [← Ny291.out] at ho11 | (simp only [Int.reduceToNat] at ho11; rw [← Ny291.out] at ho11)); have n0_ := Aside0.mk (Kd.R_elder' (by (with_reducible repeat (first | apply Kd.R_alloc | apply Kd.R_drewN | apply Kd.R_drew)); exact HO287.out) (Kd.R_base ho11) hb); have n1_ := Aside0.mk (Kd.R_elder' (by (with_reducible repeat (first | apply Kd.R_alloc | apply Kd.R_drewN | apply Kd.R_drew)); exact HO290.out) (Kd.R_base ho11) hb); have n2_ := Aside0.mk (Kd.R_lower (Kd.R_new' (Kd.R_new' ho11 (Kd.R_lt (by (with_reducible repeat (first | apply Kd.R_alloc | apply Kd.R_drewN | apply Kd.R_drew)); exact HO287.out))) (Kd.R_lt (by (with_reducible repeat (first | apply Kd.R_alloc | apply Kd.R_drewN | apply Kd.R_drew)); exact HO290.out))) (below_size (by repeat (first | (with_reducible first | exact HB.out | apply below_alloc | apply pw_below_drewN | apply below_drew1) | exact HB.out)))); have n3_ := Aside0.mk (below_step (by repeat (first | (with_reducible first | exact HB.out | apply below_alloc | apply pw_below_drewN | apply below_drew1) | exact HB.out)) hb); clear HO287; clear HO290; clear HB; have HO287 := n0_; have HO290 := n1_; have HO293 := n2_; have HB := n3_; clear n0_ n1_ n2_ n3_; clear hb ho11)); try go_wp2_with (first | (go_at_call 31; (with_reducible refine (samphireref02_Half.calls k _ _ l0 (wrap64 (2 * (l0.length : Int))) t285 _ ?side1 ?side2 A3.out).mono ?_); (case side1 => repeat (first | exact HR0.out | (with_reducible refine Kd.C_alloc ?_ _) | (with_reducible refine Kd.C_drewN ?_ _) | (with_reducible refine Kd.C_drew ?_))); (case side2 => exact HC0.out); rintro e w8 ⟨v286, rfl, ho0, hb⟩; have n0_ := Aside0.mk (Kd.R_lower ho0 (below_size (by repeat (first | (with_reducible first | exact HB.out | apply below_alloc | apply pw_below_drewN | apply below_drew1) | exact HB.out)))); have n1_ := Aside0.mk (below_step (by repeat (first | (with_reducible first | exact HB.out | apply below_alloc | apply pw_below_drewN | apply below_drew1) | exact HB.out)) hb); clear HB; have HO287 := n0_; have HB := n1_; clear n0_ n1_; (try clear hb); (try clear hb2); (try clear hk); (try clear hi); (try clear ho0)) | (go_at_call 31; (with_reducible refine (samphireref02_Half.calls k _ _ l1 (wrap64 (2 * (l1.length : Int))) t288 _ ?side1 ?side2 A4.out).mono ?_); (case side1 => repeat (first | exact (Kd.C_below HR1.out HB.out) | (with_reducible refine Kd.C_alloc ?_ _) | (with_reducible refine Kd.C_drewN ?_ _) | (with_reducible refine Kd.C_drew ?_))); (case side2 => exact HC1.out); rintro e w9 ⟨v289, rfl, ho0, hb⟩; have n0_ := Aside0.mk (Kd.R_elder' (by (with_reducible repeat (first | apply Kd.R_alloc | apply Kd.R_drewN | apply Kd.R_drew)); exact HO287.out) (Kd.R_base ho0) hb); have n1_ := Aside0.mk (Kd.R_lower (Kd.R_new' ho0 (Kd.R_lt (by (with_reducible repeat (first | apply Kd.R_alloc | apply Kd.R_drewN | apply Kd.R_drew)); exact HO287.out))) (below_size (by repeat (first | (with_reducible first | exact HB.out | apply below_alloc | apply pw_below_drewN | apply below_drew1) | exact HB.out)))); have n2_ := Aside0.mk (below_step (by repeat (first | (with_reducible first | exact HB.out | apply below_alloc | apply pw_below_drewN | apply below_drew1) | exact HB.out)) hb); clear HO287; clear HB; have HO287 := n0_; have HO290 := n1_; have HB := n2_; clear n0_ n1_ n2_; (try clear hb); (try clear hb2); (try clear hk); (try clear hi); (try clear ho0)) | ((with_reducible refine gate_dst (N := 30) rfl ?_); refine Kd.R_make (Kd.int .u64) _ 23 rfl (N := 30) rfl 22 _ _ rfl ji5 rfl rfl Try.underlying22 (.int .u64 0) 8 info23 rfl (by decide) (by omega) 0 (ok := fun _ => True) (okp := fun _ => True) rfl (fun _ hk => hk) trivial (of_decide_eq_true (by first | (with_reducible assumption) | assumption)) (Nat.le_trans (Nat.mul_le_mul_right _ (of_decide_eq_true (by first | (with_reducible assumption) | assumption) : ji5.toNat ≤ 35184372088832)) (by omega)) (Below.refl _ _) (Nat.le_refl _) ?_; intro v292 w10 ho11 hb hg_ hnew_; clear hg_ hnew_; (first | rw [← Ny291.out] at ho11 | (simp only [Int.reduceToNat] at ho11; rw [← Ny291.out] at ho11)); have n0_ := Aside0.mk (Kd.R_elder' (by (with_reducible repeat (first | apply Kd.R_alloc | apply Kd.R_drewN | apply Kd.R_drew)); exact HO287.out) (Kd.R_base ho11) hb); have n1_ := Aside0.mk (Kd.R_elder' (by (with_reducible repeat (first | apply Kd.R_alloc | apply Kd.R_drewN | apply Kd.R_drew)); exact HO290.out) (Kd.R_base ho11) hb); have n2_ := Aside0.mk (Kd.R_lower (Kd.R_new' (Kd.R_new' ho11 (Kd.R_lt (by (with_reducible repeat (first | apply Kd.R_alloc | apply Kd.R_drewN | apply Kd.R_drew)); exact HO287.out))) (Kd.R_lt (by (with_reducible repeat (first | apply Kd.R_alloc | apply Kd.R_drewN | apply Kd.R_drew)); exact HO290.out))) (below_size (by repeat (first | (with_reducible first | exact HB.out | apply below_alloc | apply pw_below_drewN | apply below_drew1) | exact HB.out)))); have n3_ := Aside0.mk (below_step (by repeat (first | (with_reducible first | exact HB.out | apply below_alloc | apply pw_below_drewN | apply below_drew1) | exact HB.out)) hb); clear HO287; clear HO290; clear HB; have HO287 := n0_; have HO290 := n1_; have HO293 := n2_; have HB := n3_; clear n0_ n1_ n2_ n3_; clear hb ho11)))
   go_loopg [10] k (fun kq v10 w' => ∃ (x9_1 : List Int) (x10_1 : Int), v10 = .int .i64 x10_1 ∧ Aside0 (samphireref02_Mul.l0 kq (wrap64 (2 * (l0.length : Int))) (wrap64 (2 * (l1.length : Int))) t285 t288 x9_1 x10_1 = some r) ∧ Aside0 (kq ≤ k) ∧ Aside0 (Kd.R (Kd.int .u64) 23 w' w.heap.size (fun k_ => some k_ ≠ (v289 : Value).ownBlock ∧ some k_ ≠ (v292 : Value).ownBlock) v286 t285) ∧ Aside0 (Kd.R (Kd.int .u64) 23 w' w.heap.size (fun k_ => some k_ ≠ (v286 : Value).ownBlock ∧ some k_ ≠ (v292 : Value).ownBlock) v289 t288) ∧ Aside0 (Kd.R (Kd.int .u64) 23 w' w.heap.size (fun k_ => some k_ ≠ (v286 : Value).ownBlock ∧ some k_ ≠ (v289 : Value).ownBlock) v292 x9_1) ∧ Aside0 (Below w.heap.size w w'))
   case atStart => exact ⟨(y291), (0), (by first | rfl | (simp; done) | (simp [*]; done)), H', ⟨Nat.le_refl _⟩, ⟨by (with_reducible repeat (first | apply Kd.R_alloc | apply Kd.R_drewN | apply Kd.R_drew)); exact Kd.R_mono HO287.out (fun _ hk => ⟨hk.1.2, hk.2⟩)⟩, ⟨by (with_reducible repeat (first | apply Kd.R_alloc | apply Kd.R_drewN | apply Kd.R_drew)); exact Kd.R_mono HO290.out (fun _ hk => ⟨hk.1.2, hk.2⟩)⟩, ⟨by (with_reducible repeat (first | apply Kd.R_alloc | apply Kd.R_drewN | apply Kd.R_drew)); exact Kd.R_mono HO293.out (fun _ hk => ⟨hk.1.2, hk.2⟩)⟩, ⟨by repeat (first | (with_reducible first | exact HB.out | apply below_alloc | apply pw_below_drewN | apply below_drew1) | exact HB.out)⟩⟩
   case round =>
    clear H'
    try clear c1
    try clear p2
    try clear c6
    try clear c6b0
    try clear c6b1
    try clear p6
    try clear c7
    try clear c7b0
    try clear c7b1
    obtain ⟨x9_1, x10_1, rfl, HA, HK1, HO_7, HO_8, HO_9, HB⟩ := hrel
    cases gk with
    | zero => exact absurd HA.out (by simp [samphireref02_Mul.l0])
    | succ k1 =>
     have H := HA.out
     clear HA
     simp only [samphireref02_Mul.l0] at H
     by_cases c12 : x10_1 < (wrap64 (2 * (l0.length : Int)))
     ·
      rw [if_pos c12] at H
      have c12b0 : decide (x10_1 < (wrap64 (2 * (l0.length : Int)))) = true := decide_eq_true c12
      clear c12
      have H' := Aside0.mk H
      clear H
      go_wp2
      repeat (go_quiet (fail); try go_wp2)
      go_loopg [11, 12] k1 (fun kq v11 v12 w' => ∃ (x9_2 : List Int) (x11_2 : Int) (x12_2 : Int), v11 = .int .u64 x11_2 ∧ v12 = .int .i64 x12_2 ∧ Aside0 (samphireref02_Mul.l1 kq (wrap64 (2 * (l0.length : Int))) (wrap64 (2 * (l1.length : Int))) t285 t288 x9_2 x10_1 x11_2 x12_2 = some r) ∧ Aside0 (kq ≤ k1) ∧ Aside0 (Kd.R (Kd.int .u64) 23 w' w.heap.size (fun k_ => some k_ ≠ (v289 : Value).ownBlock ∧ some k_ ≠ (v292 : Value).ownBlock) v286 t285) ∧ Aside0 (Kd.R (Kd.int .u64) 23 w' w.heap.size (fun k_ => some k_ ≠ (v286 : Value).ownBlock ∧ some k_ ≠ (v292 : Value).ownBlock) v289 t288) ∧ Aside0 (Kd.R (Kd.int .u64) 23 w' w.heap.size (fun k_ => some k_ ≠ (v286 : Value).ownBlock ∧ some k_ ≠ (v289 : Value).ownBlock) v292 x9_2) ∧ Aside0 (Below w.heap.size w w'))
      case atStart => exact ⟨(x9_1), (0), (0), (by first | rfl | (simp; done) | (simp [*]; done)), (by first | rfl | (simp; done) | (simp [*]; done)), H', ⟨Nat.le_refl _⟩, ⟨by (with_reducible repeat (first | apply Kd.R_alloc | apply Kd.R_drewN | apply Kd.R_drew)); exact HO_7.out⟩, ⟨by (with_reducible repeat (first | apply Kd.R_alloc | apply Kd.R_drewN | apply Kd.R_drew)); exact HO_8.out⟩, ⟨by (with_reducible repeat (first | apply Kd.R_alloc | apply Kd.R_drewN | apply Kd.R_drew)); exact HO_9.out⟩, ⟨by repeat (first | (with_reducible first | exact HB.out | apply below_alloc | apply pw_below_drewN | apply below_drew1) | exact HB.out)⟩⟩
      case round =>
       clear H'
       try clear c1
       try clear p2
       try clear c6
       try clear c6b0
       try clear c6b1
       try clear p6
       try clear c7
       try clear c7b0
       try clear c7b1
       try clear c12
       try clear c12b0
       try clear p2
       try clear p6
       obtain ⟨x9_2, x11_2, x12_2, rfl, rfl, HA, HK2, HO_7, HO_8, HO_9, HB⟩ := hrel
       cases gk with
       | zero => exact absurd HA.out (by simp [samphireref02_Mul.l1])
       | succ k2 =>
        have H := HA.out
        clear HA
        simp only [samphireref02_Mul.l1] at H
        by_cases c13 : x12_2 < (wrap64 (2 * (l1.length : Int)))
        ·
         rw [if_pos c13] at H
         have c13b0 : decide (x12_2 < (wrap64 (2 * (l1.length : Int)))) = true := decide_eq_true c13
         clear c13
         obtain ⟨ji14, hji14⟩ : ∃ j_ : Int, (wrap64 (x10_1 + x12_2)) = j_ := ⟨_, rfl⟩
         replace H : (if 0 ≤ (ji14) then (if (ji14) < (x9_2.length : Int) then (if 0 ≤ x10_1 then (if x10_1 < (t285.length : Int) then (if 0 ≤ x12_2 then (if x12_2 < (t288.length : Int) then (samphireref02_Mul.l1 k2 (wrap64 (2 * (l0.length : Int))) (wrap64 (2 * (l1.length : Int))) t285 t288 (x9_2.set ((ji14) : Int).toNat (Int.tmod (IntKind.u64.wrap ((IntKind.u64.wrap ((rd x9_2 (ji14)) + (IntKind.u64.wrap ((rd t285 x10_1) * (rd t288 x12_2))))) + x11_2)) 65536)) x10_1 (IntKind.u64.wrap (Int.tdiv (IntKind.u64.wrap ((IntKind.u64.wrap ((rd x9_2 (ji14)) + (IntKind.u64.wrap ((rd t285 x10_1) * (rd t288 x12_2))))) + x11_2)) 65536)) (wrap64 (x12_2 + 1))) else (none)) else (none)) else (none)) else (none)) else (none)) else (none)) = some r := by first | (rw [hji14] at H; exact H) | (simp only [hji14] at H ⊢; exact H)
         have hji14w : (IntKind.i64.wrap (x10_1 + x12_2)) = ji14 := (i64_w _).trans hji14
         by_cases c15 : 0 ≤ (ji14)
         ·
          rw [if_pos c15] at H
          have c15b0 : decide (0 ≤ (ji14)) = true := decide_eq_true c15
          clear c15
          by_cases c16 : (ji14) < (x9_2.length : Int)
          ·
           rw [if_pos c16] at H
           have c16b0 : decide ((ji14) < (x9_2.length : Int)) = true := decide_eq_true c16
           clear c16
           by_cases c17 : 0 ≤ x10_1
           ·
            rw [if_pos c17] at H
            have c17b0 : decide (0 ≤ x10_1) = true := decide_eq_true c17
            clear c17
            by_cases c18 : x10_1 < (t285.length : Int)
            ·
             rw [if_pos c18] at H
             have c18b0 : decide (x10_1 < (t285.length : Int)) = true := decide_eq_true c18
             clear c18
             by_cases c19 : 0 ≤ x12_2
             ·
              rw [if_pos c19] at H
              have c19b0 : decide (0 ≤ x12_2) = true := decide_eq_true c19
              clear c19
              by_cases c20 : x12_2 < (t288.length : Int)
              ·
               rw [if_pos c20] at H
               have c20b0 : decide (x12_2 < (t288.length : Int)) = true := decide_eq_true c20
               clear c20
               obtain ⟨y300, hy300⟩ : ∃ y_ : List Int, y_ = (x9_2.set ((ji14) : Int).toNat (Int.tmod (IntKind.u64.wrap ((IntKind.u64.wrap ((rd x9_2 (ji14)) + (IntKind.u64.wrap ((rd t285 x10_1) * (rd t288 x12_2))))) + x11_2)) 65536)) := ⟨_, rfl⟩
               replace H : (samphireref02_Mul.l1 k2 (wrap64 (2 * (l0.length : Int))) (wrap64 (2 * (l1.length : Int))) t285 t288 y300 x10_1 (IntKind.u64.wrap (Int.tdiv (IntKind.u64.wrap ((IntKind.u64.wrap ((rd x9_2 (ji14)) + (IntKind.u64.wrap ((rd t285 x10_1) * (rd t288 x12_2))))) + x11_2)) 65536)) (wrap64 (x12_2 + 1))) = some r := by first | (rw [hy300]; with_reducible exact H) | (have H2_ := (Option.bind_some _ _).symm.trans H; rw [hy300]; with_reducible exact H2_) | (have H2_ := (Option.bind_some _ _).symm.trans H; with_reducible exact H2_) | with_reducible exact H | (rw [hy300]; exact H) | exact H
               have Ny300 := Aside0.mk hy300
               clear hy300
               have H' := Aside0.mk H
               clear H
               obtain ⟨Ao22, co22, eo22⟩ := Kd.R_slice HO_9.out
               subst eo22
               have p297 : 0 ≤ ((ji14) : Int) := of_decide_eq_true (by first | (with_reducible assumption) | assumption)
               have q297 : (ji14) < (x9_2.length : Int) := of_decide_eq_true (by first | (with_reducible assumption) | assumption)
               obtain ⟨ad297, e297, hx297_0⟩ := Kd.at_int (Kd.R_reads' HO_9.out).2.2 (ji14) p297 q297
               cases e297
               replace p297 := eq_true p297
               replace q297 := eq_true q297
               obtain ⟨Ao23, co23, eo23⟩ := Kd.R_slice HO_7.out
               subst eo23
               have p298 : 0 ≤ (x10_1 : Int) := of_decide_eq_true (by first | (with_reducible assumption) | assumption)
               have q298 : x10_1 < (t285.length : Int) := of_decide_eq_true (by first | (with_reducible assumption) | assumption)
               obtain ⟨ad298, e298, hx298_0⟩ := Kd.at_int (Kd.R_reads' HO_7.out).2.2 x10_1 p298 q298
               cases e298
               replace p298 := eq_true p298
               replace q298 := eq_true q298
               obtain ⟨Ao24, co24, eo24⟩ := Kd.R_slice HO_8.out
               subst eo24
               have p299 : 0 ≤ (x12_2 : Int) := of_decide_eq_true (by first | (with_reducible assumption) | assumption)
               have q299 : x12_2 < (t288.length : Int) := of_decide_eq_true (by first | (with_reducible assumption) | assumption)
               obtain ⟨ad299, e299, hx299_0⟩ := Kd.at_int (Kd.R_reads' HO_8.out).2.2 x12_2 p299 q299
               cases e299
               replace p299 := eq_true p299
               replace q299 := eq_true q299
               have p21 : 0 ≤ ((ji14) : Int) := of_decide_eq_true (by first | (with_reducible assumption) | assumption)
               have q21 : ((ji14) : Int) < ((x9_2.length : Int) : Int) := of_decide_eq_true (by first | (with_reducible assumption) | assumption)
               obtain ⟨go21, co21, eo21, gb21, gl21, cl21, HG21⟩ := Kd.R_form HO_9.out (by omega)
               (first | cases eo21 | (injection eo21 with ea_ en_ ec_; (first | subst ea_ | (injection ea_ with ea_; subst ea_)); subst ec_; clear en_))
               have GB21 := Aside0.mk gb21
               have GG21 := Aside0.mk HG21
               clear gb21 gl21 HG21
               (first | simp only [add_plain] at hx297_0 | skip)
               obtain ⟨hx21_0, hf21_0⟩ := Kd.R_celln 0 HO_9.out ((ji14) : Int) p21 q21
               replace p21 := eq_true p21
               replace q21 := eq_true q21
               have HP25 := Kd.R_putg HO_9.out ((ji14) : Int) (Int.tmod (IntKind.u64.wrap ((IntKind.u64.wrap ((rd x9_2 (ji14)) + (IntKind.u64.wrap ((rd t285 x10_1) * (rd t288 x12_2))))) + x11_2)) 65536)
               go_wp2_with (first | ((with_reducible refine gate_store (t := 23) (p := 65) rfl ?_); (try (rw [drewN_self wr]; generalize hq_ : World.drewN wr _ = wr; have n0_ := Aside0.mk (Kd.R_at hq_ HO_7.out); have n1_ := Aside0.mk (Kd.R_at hq_ HO_8.out); have n2_ := Aside0.mk (Kd.R_at hq_ HO_9.out); have n3_ := Aside0.mk (below_at hq_ HB.out); clear hq_ HO_7 HO_8 HO_9 HB; have HO_7 := n0_; have HO_8 := n1_; have HO_9 := n2_; have HB := n3_; clear n0_ n1_ n2_ n3_; (try (have HP25 := Kd.R_putg HO_9.out ((ji14) : Int) (Int.tmod (IntKind.u64.wrap ((IntKind.u64.wrap ((rd x9_2 (ji14)) + (IntKind.u64.wrap ((rd t285 x10_1) * (rd t288 x12_2))))) + x11_2)) 65536))))); refine store_event (t := 23) (p := 65) (v := ?vo_w26) (w1 := (wr.setCell ⟨go21, ((ji14) : Int).toNat, none⟩ (.int .u64 (Int.tmod (IntKind.u64.wrap ((IntKind.u64.wrap ((rd x9_2 (ji14)) + (IntKind.u64.wrap ((rd t285 x10_1) * (rd t288 x12_2))))) + x11_2)) 65536)))) ?hg ?ho ?hn ?hr ?_; (case ho => rfl); (case hg => rfl); (case hn => rfl); (case hr => first | (go_simp; done) | (go_simp; rfl)); intro w26 hw; have hg : wr.grownBy w26 (some go21) := (by rw [hw]; exact HP25.2); have hp_ : Kd.R (Kd.int .u64) 23 w26 w.heap.size (fun k_ => some k_ ≠ (.slice (some ad298) t285.length co23 : Value).ownBlock ∧ some k_ ≠ (.slice (some ad299) t288.length co24 : Value).ownBlock) (.slice (some ⟨go21, 0, none⟩) x9_2.length co22) y300 := (by rw [hw, Ny300.out]; exact HP25.1); clear HP25; have n0_ := Aside0.mk (Kd.R_after (v := (.slice (some ⟨go21, 0, none⟩) x9_2.length co22)) (v1 := (.slice (some ⟨go21, 0, none⟩) x9_2.length co22)) (ok := (fun k_ => some k_ ≠ (.slice (some ad299) t288.length co24 : Value).ownBlock)) (by (with_reducible repeat (first | apply Kd.R_alloc | apply Kd.R_drewN | apply Kd.R_drew)); exact HO_7.out) hg (.inl rfl)); have n1_ := Aside0.mk (Kd.R_after (v := (.slice (some ⟨go21, 0, none⟩) x9_2.length co22)) (v1 := (.slice (some ⟨go21, 0, none⟩) x9_2.length co22)) (ok := (fun k_ => some k_ ≠ (.slice (some ad298) t285.length co23 : Value).ownBlock)) (by (with_reducible repeat (first | apply Kd.R_alloc | apply Kd.R_drewN | apply Kd.R_drew)); exact HO_8.out) hg (.inl rfl)); have n2_ := Aside0.mk (hp_); have n3_ := Aside0.mk ((by rw [hw]; exact below_set (HB.out) GB21.out : Below w.heap.size w w26)); clear HO_7; clear HO_8; clear HO_9; clear HB; have HO_7 := n0_; have HO_8 := n1_; have HO_9 := n2_; have HB := n3_; clear n0_ n1_ n2_ n3_; clear hg hw hp_))
               repeat (go_quiet (first | ((with_reducible refine gate_store (t := 23) (p := 65) rfl ?_); (try (rw [drewN_self wr]; generalize hq_ : World.drewN wr _ = wr; have n0_ := Aside0.mk (Kd.R_at hq_ HO_7.out); have n1_ := Aside0.mk (Kd.R_at hq_ HO_8.out); have n2_ := Aside0.mk (Kd.R_at hq_ HO_9.out); have n3_ := Aside0.mk (below_at hq_ HB.out); clear hq_ HO_7 HO_8 HO_9 HB; have HO_7 := n0_; have HO_8 := n1_; have HO_9 := n2_; have HB := n3_; clear n0_ n1_ n2_ n3_; (try (have HP25 := Kd.R_putg HO_9.out ((ji14) : Int) (Int.tmod (IntKind.u64.wrap ((IntKind.u64.wrap ((rd x9_2 (ji14)) + (IntKind.u64.wrap ((rd t285 x10_1) * (rd t288 x12_2))))) + x11_2)) 65536))))); refine store_event (t := 23) (p := 65) (v := ?vo_w26) (w1 := (wr.setCell ⟨go21, ((ji14) : Int).toNat, none⟩ (.int .u64 (Int.tmod (IntKind.u64.wrap ((IntKind.u64.wrap ((rd x9_2 (ji14)) + (IntKind.u64.wrap ((rd t285 x10_1) * (rd t288 x12_2))))) + x11_2)) 65536)))) ?hg ?ho ?hn ?hr ?_; (case ho => rfl); (case hg => rfl); (case hn => rfl); (case hr => first | (go_simp; done) | (go_simp; rfl)); intro w26 hw; have hg : wr.grownBy w26 (some go21) := (by rw [hw]; exact HP25.2); have hp_ : Kd.R (Kd.int .u64) 23 w26 w.heap.size (fun k_ => some k_ ≠ (.slice (some ad298) t285.length co23 : Value).ownBlock ∧ some k_ ≠ (.slice (some ad299) t288.length co24 : Value).ownBlock) (.slice (some ⟨go21, 0, none⟩) x9_2.length co22) y300 := (by rw [hw, Ny300.out]; exact HP25.1); clear HP25; have n0_ := Aside0.mk (Kd.R_after (v := (.slice (some ⟨go21, 0, none⟩) x9_2.length co22)) (v1 := (.slice (some ⟨go21, 0, none⟩) x9_2.length co22)) (ok := (fun k_ => some k_ ≠ (.slice (some ad299) t288.length co24 : Value).ownBlock)) (by (with_reducible repeat (first | apply Kd.R_alloc | apply Kd.R_drewN | apply Kd.R_drew)); exact HO_7.out) hg (.inl rfl)); have n1_ := Aside0.mk (Kd.R_after (v := (.slice (some ⟨go21, 0, none⟩) x9_2.length co22)) (v1 := (.slice (some ⟨go21, 0, none⟩) x9_2.length co22)) (ok := (fun k_ => some k_ ≠ (.slice (some ad298) t285.length co23 : Value).ownBlock)) (by (with_reducible repeat (first | apply Kd.R_alloc | apply Kd.R_drewN | apply Kd.R_drew)); exact HO_8.out) hg (.inl rfl)); have n2_ := Aside0.mk (hp_); have n3_ := Aside0.mk ((by rw [hw]; exact below_set (HB.out) GB21.out : Below w.heap.size w w26)); clear HO_7; clear HO_8; clear HO_9; clear HB; have HO_7 := n0_; have HO_8 := n1_; have HO_9 := n2_; have HB := n3_; clear n0_ n1_ n2_ n3_; clear hg hw hp_)); try go_wp2_with (first | ((with_reducible refine gate_store (t := 23) (p := 65) rfl ?_); (try (rw [drewN_self wr]; generalize hq_ : World.drewN wr _ = wr; have n0_ := Aside0.mk (Kd.R_at hq_ HO_7.out); have n1_ := Aside0.mk (Kd.R_at hq_ HO_8.out); have n2_ := Aside0.mk (Kd.R_at hq_ HO_9.out); have n3_ := Aside0.mk (below_at hq_ HB.out); clear hq_ HO_7 HO_8 HO_9 HB; have HO_7 := n0_; have HO_8 := n1_; have HO_9 := n2_; have HB := n3_; clear n0_ n1_ n2_ n3_; (try (have HP25 := Kd.R_putg HO_9.out ((ji14) : Int) (Int.tmod (IntKind.u64.wrap ((IntKind.u64.wrap ((rd x9_2 (ji14)) + (IntKind.u64.wrap ((rd t285 x10_1) * (rd t288 x12_2))))) + x11_2)) 65536))))); refine store_event (t := 23) (p := 65) (v := ?vo_w26) (w1 := (wr.setCell ⟨go21, ((ji14) : Int).toNat, none⟩ (.int .u64 (Int.tmod (IntKind.u64.wrap ((IntKind.u64.wrap ((rd x9_2 (ji14)) + (IntKind.u64.wrap ((rd t285 x10_1) * (rd t288 x12_2))))) + x11_2)) 65536)))) ?hg ?ho ?hn ?hr ?_; (case ho => rfl); (case hg => rfl); (case hn => rfl); (case hr => first | (go_simp; done) | (go_simp; rfl)); intro w26 hw; have hg : wr.grownBy w26 (some go21) := (by rw [hw]; exact HP25.2); have hp_ : Kd.R (Kd.int .u64) 23 w26 w.heap.size (fun k_ => some k_ ≠ (.slice (some ad298) t285.length co23 : Value).ownBlock ∧ some k_ ≠ (.slice (some ad299) t288.length co24 : Value).ownBlock) (.slice (some ⟨go21, 0, none⟩) x9_2.length co22) y300 := (by rw [hw, Ny300.out]; exact HP25.1); clear HP25; have n0_ := Aside0.mk (Kd.R_after (v := (.slice (some ⟨go21, 0, none⟩) x9_2.length co22)) (v1 := (.slice (some ⟨go21, 0, none⟩) x9_2.length co22)) (ok := (fun k_ => some k_ ≠ (.slice (some ad299) t288.length co24 : Value).ownBlock)) (by (with_reducible repeat (first | apply Kd.R_alloc | apply Kd.R_drewN | apply Kd.R_drew)); exact HO_7.out) hg (.inl rfl)); have n1_ := Aside0.mk (Kd.R_after (v := (.slice (some ⟨go21, 0, none⟩) x9_2.length co22)) (v1 := (.slice (some ⟨go21, 0, none⟩) x9_2.length co22)) (ok := (fun k_ => some k_ ≠ (.slice (some ad298) t285.length co23 : Value).ownBlock)) (by (with_reducible repeat (first | apply Kd.R_alloc | apply Kd.R_drewN | apply Kd.R_drew)); exact HO_8.out) hg (.inl rfl)); have n2_ := Aside0.mk (hp_); have n3_ := Aside0.mk ((by rw [hw]; exact below_set (HB.out) GB21.out : Below w.heap.size w w26)); clear HO_7; clear HO_8; clear HO_9; clear HB; have HO_7 := n0_; have HO_8 := n1_; have HO_9 := n2_; have HB := n3_; clear n0_ n1_ n2_ n3_; clear hg hw hp_)))
               go_roundg k2
               case measure => have := HK1.out; have := HK2.out; omega
               case rel =>
                (try rw [drewN_self wr])
                generalize hq_ : World.drewN wr _ = wq
                have m7 := Kd.R_at hq_ HO_7.out
                have m8 := Kd.R_at hq_ HO_8.out
                have m9 := Kd.R_at hq_ HO_9.out
                have mb := below_at hq_ HB.out
                have HP := Kd.R_putg m9 ((ji14) : Int) ((Int.tmod (IntKind.u64.wrap ((IntKind.u64.wrap ((rd x9_2 (ji14)) + (IntKind.u64.wrap ((rd t285 x10_1) * (rd t288 x12_2))))) + x11_2)) 65536))
                exact ⟨(y300), (IntKind.u64.wrap (Int.tdiv (IntKind.u64.wrap ((IntKind.u64.wrap ((rd x9_2 (ji14)) + (IntKind.u64.wrap ((rd t285 x10_1) * (rd t288 x12_2))))) + x11_2)) 65536)), (wrap64 (x12_2 + 1)), (by first | rfl | (simp; done) | (simp only [← hji14] <;> (first | rfl | simp)) | (simp [*]; done)), (by first | rfl | (simp; done) | (simp [*]; done)), H', ⟨by have := HK1.out; have := HK2.out; omega⟩,  ⟨Kd.R_after (v := (.slice (some ⟨go21, 0, none⟩) x9_2.length co22)) (v1 := (.slice (some ⟨go21, 0, none⟩) x9_2.length co22)) (ok := (fun k_ => some k_ ≠ (.slice (some ad299) t288.length co24 : Value).ownBlock)) m7 HP.2 (.inl rfl)⟩, ⟨Kd.R_after (v := (.slice (some ⟨go21, 0, none⟩) x9_2.length co22)) (v1 := (.slice (some ⟨go21, 0, none⟩) x9_2.length co22)) (ok := (fun k_ => some k_ ≠ (.slice (some ad298) t285.length co23 : Value).ownBlock)) m8 HP.2 (.inl rfl)⟩, ⟨by rw [Ny300.out]; exact HP.1⟩, ⟨below_set mb GB21.out⟩⟩
              ·
               rw [if_neg c20] at H
               exact absurd H (by simp)
             ·
              rw [if_neg c19] at H
              exact absurd H (by simp)
            ·
             rw [if_neg c18] at H
             exact absurd H (by simp)
           ·
            rw [if_neg c17] at H
            exact absurd H (by simp)
          ·
           rw [if_neg c16] at H
           exact absurd H (by simp)
         ·
          rw [if_neg c15] at H
          exact absurd H (by simp)
        ·
         rw [if_neg c13] at H
         have c13b0 : decide (x12_2 < (wrap64 (2 * (l1.length : Int)))) = false := decide_eq_false c13
         clear c13
         obtain ⟨ji27, hji27⟩ : ∃ j_ : Int, (wrap64 (x10_1 + (wrap64 (2 * (l1.length : Int))))) = j_ := ⟨_, rfl⟩
         replace H : (if 0 ≤ (ji27) then (if (ji27) < (x9_2.length : Int) then (samphireref02_Mul.l0 k2 (wrap64 (2 * (l0.length : Int))) (wrap64 (2 * (l1.length : Int))) t285 t288 (x9_2.set ((ji27) : Int).toNat (IntKind.u64.wrap ((rd x9_2 (ji27)) + x11_2))) (wrap64 (x10_1 + 1))) else (none)) else (none)) = some r := by first | (rw [hji27] at H; exact H) | (simp only [hji27] at H ⊢; exact H)
         have hji27w : (IntKind.i64.wrap (x10_1 + (wrap64 (2 * (l1.length : Int))))) = ji27 := (i64_w _).trans hji27
         by_cases c28 : 0 ≤ (ji27)
         ·
          rw [if_pos c28] at H
          have c28b0 : decide (0 ≤ (ji27)) = true := decide_eq_true c28
          clear c28
          by_cases c29 : (ji27) < (x9_2.length : Int)
          ·
           rw [if_pos c29] at H
           have c29b0 : decide ((ji27) < (x9_2.length : Int)) = true := decide_eq_true c29
           clear c29
           obtain ⟨y302, hy302⟩ : ∃ y_ : List Int, y_ = (x9_2.set ((ji27) : Int).toNat (IntKind.u64.wrap ((rd x9_2 (ji27)) + x11_2))) := ⟨_, rfl⟩
           replace H : (samphireref02_Mul.l0 k2 (wrap64 (2 * (l0.length : Int))) (wrap64 (2 * (l1.length : Int))) t285 t288 y302 (wrap64 (x10_1 + 1))) = some r := by first | (rw [hy302]; with_reducible exact H) | (have H2_ := (Option.bind_some _ _).symm.trans H; rw [hy302]; with_reducible exact H2_) | (have H2_ := (Option.bind_some _ _).symm.trans H; with_reducible exact H2_) | with_reducible exact H | (rw [hy302]; exact H) | exact H
           have Ny302 := Aside0.mk hy302
           clear hy302
           have H' := Aside0.mk H
           clear H
           obtain ⟨Ao31, co31, eo31⟩ := Kd.R_slice HO_9.out
           subst eo31
           have p301 : 0 ≤ ((ji27) : Int) := of_decide_eq_true (by first | (with_reducible assumption) | assumption)
           have q301 : (ji27) < (x9_2.length : Int) := of_decide_eq_true (by first | (with_reducible assumption) | assumption)
           obtain ⟨ad301, e301, hx301_0⟩ := Kd.at_int (Kd.R_reads' HO_9.out).2.2 (ji27) p301 q301
           cases e301
           replace p301 := eq_true p301
           replace q301 := eq_true q301
           have p30 : 0 ≤ ((ji27) : Int) := of_decide_eq_true (by first | (with_reducible assumption) | assumption)
           have q30 : ((ji27) : Int) < ((x9_2.length : Int) : Int) := of_decide_eq_true (by first | (with_reducible assumption) | assumption)
           obtain ⟨go30, co30, eo30, gb30, gl30, cl30, HG30⟩ := Kd.R_form HO_9.out (by omega)
           (first | cases eo30 | (injection eo30 with ea_ en_ ec_; (first | subst ea_ | (injection ea_ with ea_; subst ea_)); subst ec_; clear en_))
           have GB30 := Aside0.mk gb30
           have GG30 := Aside0.mk HG30
           clear gb30 gl30 HG30
           (first | simp only [add_plain] at hx301_0 | skip)
           obtain ⟨hx30_0, hf30_0⟩ := Kd.R_celln 0 HO_9.out ((ji27) : Int) p30 q30
           replace p30 := eq_true p30
           replace q30 := eq_true q30
           have HP32 := Kd.R_putg HO_9.out ((ji27) : Int) (IntKind.u64.wrap ((rd x9_2 (ji27)) + x11_2))
           go_wp2_with (first | ((with_reducible refine gate_store (t := 23) (p := 76) rfl ?_); (try (rw [drewN_self wr]; generalize hq_ : World.drewN wr _ = wr; have n0_ := Aside0.mk (Kd.R_at hq_ HO_7.out); have n1_ := Aside0.mk (Kd.R_at hq_ HO_8.out); have n2_ := Aside0.mk (Kd.R_at hq_ HO_9.out); have n3_ := Aside0.mk (below_at hq_ HB.out); clear hq_ HO_7 HO_8 HO_9 HB; have HO_7 := n0_; have HO_8 := n1_; have HO_9 := n2_; have HB := n3_; clear n0_ n1_ n2_ n3_; (try (have HP32 := Kd.R_putg HO_9.out ((ji27) : Int) (IntKind.u64.wrap ((rd x9_2 (ji27)) + x11_2)))))); refine store_event (t := 23) (p := 76) (v := ?vo_w33) (w1 := (wr.setCell ⟨go30, ((ji27) : Int).toNat, none⟩ (.int .u64 (IntKind.u64.wrap ((rd x9_2 (ji27)) + x11_2))))) ?hg ?ho ?hn ?hr ?_; (case ho => rfl); (case hg => rfl); (case hn => rfl); (case hr => first | (go_simp; done) | (go_simp; rfl)); intro w33 hw; have hg : wr.grownBy w33 (some go30) := (by rw [hw]; exact HP32.2); have hp_ : Kd.R (Kd.int .u64) 23 w33 w.heap.size (fun k_ => some k_ ≠ (v286 : Value).ownBlock ∧ some k_ ≠ (v289 : Value).ownBlock) (.slice (some ⟨go30, 0, none⟩) x9_2.length co31) y302 := (by rw [hw, Ny302.out]; exact HP32.1); clear HP32; have n0_ := Aside0.mk (Kd.R_after (v := (.slice (some ⟨go30, 0, none⟩) x9_2.length co31)) (v1 := (.slice (some ⟨go30, 0, none⟩) x9_2.length co31)) (ok := (fun k_ => some k_ ≠ (v289 : Value).ownBlock)) (by (with_reducible repeat (first | apply Kd.R_alloc | apply Kd.R_drewN | apply Kd.R_drew)); exact HO_7.out) hg (.inl rfl)); have n1_ := Aside0.mk (Kd.R_after (v := (.slice (some ⟨go30, 0, none⟩) x9_2.length co31)) (v1 := (.slice (some ⟨go30, 0, none⟩) x9_2.length co31)) (ok := (fun k_ => some k_ ≠ (v286 : Value).ownBlock)) (by (with_reducible repeat (first | apply Kd.R_alloc | apply Kd.R_drewN | apply Kd.R_drew)); exact HO_8.out) hg (.inl rfl)); have n2_ := Aside0.mk (hp_); have n3_ := Aside0.mk ((by rw [hw]; exact below_set (HB.out) GB30.out : Below w.heap.size w w33)); clear HO_7; clear HO_8; clear HO_9; clear HB; have HO_7 := n0_; have HO_8 := n1_; have HO_9 := n2_; have HB := n3_; clear n0_ n1_ n2_ n3_; clear hg hw hp_))
           repeat (go_quiet (first | ((with_reducible refine gate_store (t := 23) (p := 76) rfl ?_); (try (rw [drewN_self wr]; generalize hq_ : World.drewN wr _ = wr; have n0_ := Aside0.mk (Kd.R_at hq_ HO_7.out); have n1_ := Aside0.mk (Kd.R_at hq_ HO_8.out); have n2_ := Aside0.mk (Kd.R_at hq_ HO_9.out); have n3_ := Aside0.mk (below_at hq_ HB.out); clear hq_ HO_7 HO_8 HO_9 HB; have HO_7 := n0_; have HO_8 := n1_; have HO_9 := n2_; have HB := n3_; clear n0_ n1_ n2_ n3_; (try (have HP32 := Kd.R_putg HO_9.out ((ji27) : Int) (IntKind.u64.wrap ((rd x9_2 (ji27)) + x11_2)))))); refine store_event (t := 23) (p := 76) (v := ?vo_w33) (w1 := (wr.setCell ⟨go30, ((ji27) : Int).toNat, none⟩ (.int .u64 (IntKind.u64.wrap ((rd x9_2 (ji27)) + x11_2))))) ?hg ?ho ?hn ?hr ?_; (case ho => rfl); (case hg => rfl); (case hn => rfl); (case hr => first | (go_simp; done) | (go_simp; rfl)); intro w33 hw; have hg : wr.grownBy w33 (some go30) := (by rw [hw]; exact HP32.2); have hp_ : Kd.R (Kd.int .u64) 23 w33 w.heap.size (fun k_ => some k_ ≠ (v286 : Value).ownBlock ∧ some k_ ≠ (v289 : Value).ownBlock) (.slice (some ⟨go30, 0, none⟩) x9_2.length co31) y302 := (by rw [hw, Ny302.out]; exact HP32.1); clear HP32; have n0_ := Aside0.mk (Kd.R_after (v := (.slice (some ⟨go30, 0, none⟩) x9_2.length co31)) (v1 := (.slice (some ⟨go30, 0, none⟩) x9_2.length co31)) (ok := (fun k_ => some k_ ≠ (v289 : Value).ownBlock)) (by (with_reducible repeat (first | apply Kd.R_alloc | apply Kd.R_drewN | apply Kd.R_drew)); exact HO_7.out) hg (.inl rfl)); have n1_ := Aside0.mk (Kd.R_after (v := (.slice (some ⟨go30, 0, none⟩) x9_2.length co31)) (v1 := (.slice (some ⟨go30, 0, none⟩) x9_2.length co31)) (ok := (fun k_ => some k_ ≠ (v286 : Value).ownBlock)) (by (with_reducible repeat (first | apply Kd.R_alloc | apply Kd.R_drewN | apply Kd.R_drew)); exact HO_8.out) hg (.inl rfl)); have n2_ := Aside0.mk (hp_); have n3_ := Aside0.mk ((by rw [hw]; exact below_set (HB.out) GB30.out : Below w.heap.size w w33)); clear HO_7; clear HO_8; clear HO_9; clear HB; have HO_7 := n0_; have HO_8 := n1_; have HO_9 := n2_; have HB := n3_; clear n0_ n1_ n2_ n3_; clear hg hw hp_)); try go_wp2_with (first | ((with_reducible refine gate_store (t := 23) (p := 76) rfl ?_); (try (rw [drewN_self wr]; generalize hq_ : World.drewN wr _ = wr; have n0_ := Aside0.mk (Kd.R_at hq_ HO_7.out); have n1_ := Aside0.mk (Kd.R_at hq_ HO_8.out); have n2_ := Aside0.mk (Kd.R_at hq_ HO_9.out); have n3_ := Aside0.mk (below_at hq_ HB.out); clear hq_ HO_7 HO_8 HO_9 HB; have HO_7 := n0_; have HO_8 := n1_; have HO_9 := n2_; have HB := n3_; clear n0_ n1_ n2_ n3_; (try (have HP32 := Kd.R_putg HO_9.out ((ji27) : Int) (IntKind.u64.wrap ((rd x9_2 (ji27)) + x11_2)))))); refine store_event (t := 23) (p := 76) (v := ?vo_w33) (w1 := (wr.setCell ⟨go30, ((ji27) : Int).toNat, none⟩ (.int .u64 (IntKind.u64.wrap ((rd x9_2 (ji27)) + x11_2))))) ?hg ?ho ?hn ?hr ?_; (case ho => rfl); (case hg => rfl); (case hn => rfl); (case hr => first | (go_simp; done) | (go_simp; rfl)); intro w33 hw; have hg : wr.grownBy w33 (some go30) := (by rw [hw]; exact HP32.2); have hp_ : Kd.R (Kd.int .u64) 23 w33 w.heap.size (fun k_ => some k_ ≠ (v286 : Value).ownBlock ∧ some k_ ≠ (v289 : Value).ownBlock) (.slice (some ⟨go30, 0, none⟩) x9_2.length co31) y302 := (by rw [hw, Ny302.out]; exact HP32.1); clear HP32; have n0_ := Aside0.mk (Kd.R_after (v := (.slice (some ⟨go30, 0, none⟩) x9_2.length co31)) (v1 := (.slice (some ⟨go30, 0, none⟩) x9_2.length co31)) (ok := (fun k_ => some k_ ≠ (v289 : Value).ownBlock)) (by (with_reducible repeat (first | apply Kd.R_alloc | apply Kd.R_drewN | apply Kd.R_drew)); exact HO_7.out) hg (.inl rfl)); have n1_ := Aside0.mk (Kd.R_after (v := (.slice (some ⟨go30, 0, none⟩) x9_2.length co31)) (v1 := (.slice (some ⟨go30, 0, none⟩) x9_2.length co31)) (ok := (fun k_ => some k_ ≠ (v286 : Value).ownBlock)) (by (with_reducible repeat (first | apply Kd.R_alloc | apply Kd.R_drewN | apply Kd.R_drew)); exact HO_8.out) hg (.inl rfl)); have n2_ := Aside0.mk (hp_); have n3_ := Aside0.mk ((by rw [hw]; exact below_set (HB.out) GB30.out : Below w.heap.size w w33)); clear HO_7; clear HO_8; clear HO_9; clear HB; have HO_7 := n0_; have HO_8 := n1_; have HO_9 := n2_; have HB := n3_; clear n0_ n1_ n2_ n3_; clear hg hw hp_)))
           go_roundg k2
           case measure => have := HK1.out; have := HK2.out; omega
           case rel => exact ⟨(y302), (wrap64 (x10_1 + 1)), (by first | rfl | (simp; done) | (simp [*]; done)), H', ⟨by have := HK1.out; have := HK2.out; omega⟩, ⟨by (with_reducible repeat (first | apply Kd.R_alloc | apply Kd.R_drewN | apply Kd.R_drew)); exact HO_7.out⟩, ⟨by (with_reducible repeat (first | apply Kd.R_alloc | apply Kd.R_drewN | apply Kd.R_drew)); exact HO_8.out⟩, ⟨by (with_reducible repeat (first | apply Kd.R_alloc | apply Kd.R_drewN | apply Kd.R_drew)); exact HO_9.out⟩, ⟨by repeat (first | (with_reducible first | exact HB.out | apply below_alloc | apply pw_below_drewN | apply below_drew1) | exact HB.out)⟩⟩
          ·
           rw [if_neg c29] at H
           exact absurd H (by simp)
         ·
          rw [if_neg c28] at H
          exact absurd H (by simp)
     ·
      rw [if_neg c12] at H
      have c12b0 : decide (x10_1 < (wrap64 (2 * (l0.length : Int)))) = false := decide_eq_false c12
      clear c12
      replace H := Option.bind_eq_some_iff.mp H
      obtain ⟨t294, A340, H⟩ := H
      replace H : (some t294) = some r := H
      have A34 := Aside0.mk A340
      clear A340
      obtain rfl := Option.some.inj H
      obtain ⟨Ao35, co35, eo35⟩ := Kd.R_slice HO_9.out
      subst eo35
      go_wp2_with (first | (go_at_call 23; (with_reducible refine (samphireref02_Whole.calls k1 _ _ x9_1 t294 _ ?side1 ?side2 A34.out).mono ?_); (case side1 => repeat (first | exact (Kd.R_reads' HO_9.out).2.2 | (with_reducible refine Kd.C_alloc ?_ _) | (with_reducible refine Kd.C_drewN ?_ _) | (with_reducible refine Kd.C_drew ?_))); (case side2 => exact (Kd.R_reads' HO_9.out).2.1); rintro e w36 ⟨v295, rfl, ho0, hb⟩; have n0_ := Aside0.mk (Kd.R_below (by (with_reducible repeat (first | apply Kd.R_alloc | apply Kd.R_drewN | apply Kd.R_drew)); exact HO_7.out) hb); have n1_ := Aside0.mk (Kd.R_below (by (with_reducible repeat (first | apply Kd.R_alloc | apply Kd.R_drewN | apply Kd.R_drew)); exact HO_8.out) hb); have n2_ := Aside0.mk (Kd.R_below (by (with_reducible repeat (first | apply Kd.R_alloc | apply Kd.R_drewN | apply Kd.R_drew)); exact HO_9.out) hb); have n3_ := Aside0.mk (Kd.R_lower ho0 (below_size (by repeat (first | (with_reducible first | exact HB.out | apply below_alloc | apply pw_below_drewN | apply below_drew1) | exact HB.out)))); have n4_ := Aside0.mk (below_step (by repeat (first | (with_reducible first | exact HB.out | apply below_alloc | apply pw_below_drewN | apply below_drew1) | exact HB.out)) hb); clear HO_7; clear HO_8; clear HO_9; clear HB; have HO_7 := n0_; have HO_8 := n1_; have HO_9 := n2_; have HO296 := n3_; have HB := n4_; clear n0_ n1_ n2_ n3_ n4_; (try clear hb); (try clear hb2); (try clear hk); (try clear hi); (try clear ho0)))
      repeat (go_quiet (first | (go_at_call 23; (with_reducible refine (samphireref02_Whole.calls k1 _ _ x9_1 t294 _ ?side1 ?side2 A34.out).mono ?_); (case side1 => repeat (first | exact (Kd.R_reads' HO_9.out).2.2 | (with_reducible refine Kd.C_alloc ?_ _) | (with_reducible refine Kd.C_drewN ?_ _) | (with_reducible refine Kd.C_drew ?_))); (case side2 => exact (Kd.R_reads' HO_9.out).2.1); rintro e w36 ⟨v295, rfl, ho0, hb⟩; have n0_ := Aside0.mk (Kd.R_below (by (with_reducible repeat (first | apply Kd.R_alloc | apply Kd.R_drewN | apply Kd.R_drew)); exact HO_7.out) hb); have n1_ := Aside0.mk (Kd.R_below (by (with_reducible repeat (first | apply Kd.R_alloc | apply Kd.R_drewN | apply Kd.R_drew)); exact HO_8.out) hb); have n2_ := Aside0.mk (Kd.R_below (by (with_reducible repeat (first | apply Kd.R_alloc | apply Kd.R_drewN | apply Kd.R_drew)); exact HO_9.out) hb); have n3_ := Aside0.mk (Kd.R_lower ho0 (below_size (by repeat (first | (with_reducible first | exact HB.out | apply below_alloc | apply pw_below_drewN | apply below_drew1) | exact HB.out)))); have n4_ := Aside0.mk (below_step (by repeat (first | (with_reducible first | exact HB.out | apply below_alloc | apply pw_below_drewN | apply below_drew1) | exact HB.out)) hb); clear HO_7; clear HO_8; clear HO_9; clear HB; have HO_7 := n0_; have HO_8 := n1_; have HO_9 := n2_; have HO296 := n3_; have HB := n4_; clear n0_ n1_ n2_ n3_ n4_; (try clear hb); (try clear hb2); (try clear hk); (try clear hi); (try clear ho0))); try go_wp2_with (first | (go_at_call 23; (with_reducible refine (samphireref02_Whole.calls k1 _ _ x9_1 t294 _ ?side1 ?side2 A34.out).mono ?_); (case side1 => repeat (first | exact (Kd.R_reads' HO_9.out).2.2 | (with_reducible refine Kd.C_alloc ?_ _) | (with_reducible refine Kd.C_drewN ?_ _) | (with_reducible refine Kd.C_drew ?_))); (case side2 => exact (Kd.R_reads' HO_9.out).2.1); rintro e w36 ⟨v295, rfl, ho0, hb⟩; have n0_ := Aside0.mk (Kd.R_below (by (with_reducible repeat (first | apply Kd.R_alloc | apply Kd.R_drewN | apply Kd.R_drew)); exact HO_7.out) hb); have n1_ := Aside0.mk (Kd.R_below (by (with_reducible repeat (first | apply Kd.R_alloc | apply Kd.R_drewN | apply Kd.R_drew)); exact HO_8.out) hb); have n2_ := Aside0.mk (Kd.R_below (by (with_reducible repeat (first | apply Kd.R_alloc | apply Kd.R_drewN | apply Kd.R_drew)); exact HO_9.out) hb); have n3_ := Aside0.mk (Kd.R_lower ho0 (below_size (by repeat (first | (with_reducible first | exact HB.out | apply below_alloc | apply pw_below_drewN | apply below_drew1) | exact HB.out)))); have n4_ := Aside0.mk (below_step (by repeat (first | (with_reducible first | exact HB.out | apply below_alloc | apply pw_below_drewN | apply below_drew1) | exact HB.out)) hb); clear HO_7; clear HO_8; clear HO_9; clear HB; have HO_7 := n0_; have HO_8 := n1_; have HO_9 := n2_; have HO296 := n3_; have HB := n4_; clear n0_ n1_ n2_ n3_ n4_; (try clear hb); (try clear hb2); (try clear hk); (try clear hi); (try clear ho0))))
      go_ret
      exact ⟨_, by first | rfl | (simp [errW_none, errW_some] <;> rfl) | (simp only [← hji5]; first | rfl | (simp [errW_none, errW_some] <;> rfl)) | (simp [*, errW_none, errW_some] <;> rfl), by (with_reducible repeat (first | apply Kd.R_alloc | apply Kd.R_drewN | apply Kd.R_drew)); exact HO296.out, by repeat (first | (with_reducible first | exact HB.out | apply below_alloc | apply pw_below_drewN | apply below_drew1) | exact HB.out)⟩
  ·
   rw [if_neg c7] at H
   exact absurd H (by simp)
 ·
  rw [if_neg c6] at H
  exact absurd H (by simp)

end Go.Proofs.Ytpgfadljcmakfaa.B
