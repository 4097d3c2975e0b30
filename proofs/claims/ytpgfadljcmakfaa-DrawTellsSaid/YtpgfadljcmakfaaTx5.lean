/- Walks of Go functions, each against a plain function over numbers and lists; written by this session's program printx.py over the kit's print; no condition but those that each theorem states. -/
import Derived.Test.YtpgfadljcmakfaaTx0
import Derived.Test.YtpgfadljcmakfaaTx1
import Derived.Test.YtpgfadljcmakfaaTx2
import Derived.Test.YtpgfadljcmakfaaTx4
namespace Go.Proofs.Ytpgfadljcmakfaa.T
open Go.Proofs.Ytpgfadljcmakfaa.Q Go.RowKit Go.Proofs.YtpgfadljcmakfaaW.PrintWords Go.Proofs.YtpgfadljcmakfaaW.PrintLast Go.Proofs.YtpgfadljcmakfaaW.PrintMore
attribute [local go_sem] max2_int min2_int max_two min_two max_three min_three max_four min_four   -- for this text's walks alone
set_option linter.unusedVariables false
set_option linter.unusedSimpArgs false

/-! ### samphirelaw07_awake: function 9 -/
def samphirelaw07_awake.f (k : Nat)  : Option (Bool) := (draw_Below.f k (([13, 14, 9, 2] : List Int)) 0 5).bind fun bt205 => ((draw_Below.f k (([7, 6] : List Int)) 0 5).bind fun bt215 => ((draw_BelowNat.f k (([3, 1] : List Int)) 0 (([0, 0, 2] : List Int))).bind fun bt228 => (if bt205.1 = 1 then (if bt205.2.2.1 = 3 then (if bt205.2.2.2 = 0 then (if bt215.2.2.1 = 0 then (if bt215.2.2.2 = 8 then ((samphireref02_Same.f k bt228.1 (([3, 0, 1] : List Int))).bind fun t240 => (if t240 = true then (if bt228.2.2.1 = 2 then (if bt228.2.2.2 = 0 then ((draw_Left.f bt205.2.1 bt205.2.2.1).bind fun t241 => (some (t241 == 1))) else (none)) else (none)) else (none))) else (none)) else (none)) else (none)) else (none)) else (none))))
theorem samphirelaw07_awake.mono : ∀ k, LeO (samphirelaw07_awake.f k ) (samphirelaw07_awake.f (k + 1) ) := by
 intro  k
 unfold samphirelaw07_awake.f
 repeat' first
   | (with_reducible exact draw_Below.mono _ _ _ _)
   | (with_reducible exact draw_BelowNat.mono _ _ _ _)
   | (with_reducible exact samphireref02_Same.mono _ _ _)
   | (with_reducible exact LeO.refl _)
   | (with_reducible exact LeO.none _)
   | (with_reducible refine LeO.ite ?_ ?_)
   | (with_reducible refine LeO.bind ?_ (fun _ => ?_))
   | exact draw_Below.mono _ _ _ _
   | exact draw_BelowNat.mono _ _ _ _
   | exact samphireref02_Same.mono _ _ _
   | exact LeO.none _
   | refine LeO.ite ?_ ?_
   | refine LeO.bind ?_ (fun _ => ?_)
set_option maxHeartbeats 8000000 in
set_option maxRecDepth 100000 in
theorem samphirelaw07_awake.calls (k : Nat)  (r : Bool) (w : World) (h : samphirelaw07_awake.f k  = some r) :
  Calls Try.prog 9 #[] w fun e w' => e = .returned (.bool r) ∧ Below w.heap.size w w' := by
 have hu28 := Try.underlying28
 have HB := Aside0.mk (Below.refl w.heap.size w)
 have H : ((draw_Below.f k (([13, 14, 9, 2] : List Int)) 0 5).bind fun bt205 => ((draw_Below.f k (([7, 6] : List Int)) 0 5).bind fun bt215 => ((draw_BelowNat.f k (([3, 1] : List Int)) 0 (([0, 0, 2] : List Int))).bind fun bt228 => (if bt205.1 = 1 then (if bt205.2.2.1 = 3 then (if bt205.2.2.2 = 0 then (if bt215.2.2.1 = 0 then (if bt215.2.2.2 = 8 then ((samphireref02_Same.f k bt228.1 (([3, 0, 1] : List Int))).bind fun t240 => (if t240 = true then (if bt228.2.2.1 = 2 then (if bt228.2.2.2 = 0 then ((draw_Left.f bt205.2.1 bt205.2.2.1).bind fun t241 => (some (t241 == 1))) else (none)) else (none)) else (none))) else (none)) else (none)) else (none)) else (none)) else (none))))) = some r := h
 clear h
 obtain ⟨y202, hy202⟩ : ∃ y_ : List Int, y_ = (([13, 14, 9, 2] : List Int)) := ⟨_, rfl⟩
 replace H : ((draw_Below.f k y202 0 5).bind fun bt205 => ((draw_Below.f k (([7, 6] : List Int)) 0 5).bind fun bt215 => ((draw_BelowNat.f k (([3, 1] : List Int)) 0 (([0, 0, 2] : List Int))).bind fun bt228 => (if bt205.1 = 1 then (if bt205.2.2.1 = 3 then (if bt205.2.2.2 = 0 then (if bt215.2.2.1 = 0 then (if bt215.2.2.2 = 8 then ((samphireref02_Same.f k bt228.1 (([3, 0, 1] : List Int))).bind fun t240 => (if t240 = true then (if bt228.2.2.1 = 2 then (if bt228.2.2.2 = 0 then ((draw_Left.f bt205.2.1 bt205.2.2.1).bind fun t241 => (some (t241 == 1))) else (none)) else (none)) else (none))) else (none)) else (none)) else (none)) else (none)) else (none))))) = some r := by first | (rw [hy202]; with_reducible exact H) | (have H2_ := (Option.bind_some _ _).symm.trans H; rw [hy202]; with_reducible exact H2_) | (have H2_ := (Option.bind_some _ _).symm.trans H; with_reducible exact H2_) | with_reducible exact H | (rw [hy202]; exact H) | exact H
 have Ny202 := Aside0.mk hy202
 clear hy202
 replace H := Option.bind_eq_some_iff.mp H
 obtain ⟨⟨t205, t206, t209, t210⟩, A10, H⟩ := H
 replace H : ((draw_Below.f k (([7, 6] : List Int)) 0 5).bind fun bt215 => ((draw_BelowNat.f k (([3, 1] : List Int)) 0 (([0, 0, 2] : List Int))).bind fun bt228 => (if t205 = 1 then (if t209 = 3 then (if t210 = 0 then (if bt215.2.2.1 = 0 then (if bt215.2.2.2 = 8 then ((samphireref02_Same.f k bt228.1 (([3, 0, 1] : List Int))).bind fun t240 => (if t240 = true then (if bt228.2.2.1 = 2 then (if bt228.2.2.2 = 0 then ((draw_Left.f t206 t209).bind fun t241 => (some (t241 == 1))) else (none)) else (none)) else (none))) else (none)) else (none)) else (none)) else (none)) else (none)))) = some r := H
 have A1 := Aside0.mk A10
 clear A10
 obtain ⟨y212, hy212⟩ : ∃ y_ : List Int, y_ = (([7, 6] : List Int)) := ⟨_, rfl⟩
 replace H : ((draw_Below.f k y212 0 5).bind fun bt215 => ((draw_BelowNat.f k (([3, 1] : List Int)) 0 (([0, 0, 2] : List Int))).bind fun bt228 => (if t205 = 1 then (if t209 = 3 then (if t210 = 0 then (if bt215.2.2.1 = 0 then (if bt215.2.2.2 = 8 then ((samphireref02_Same.f k bt228.1 (([3, 0, 1] : List Int))).bind fun t240 => (if t240 = true then (if bt228.2.2.1 = 2 then (if bt228.2.2.2 = 0 then ((draw_Left.f t206 t209).bind fun t241 => (some (t241 == 1))) else (none)) else (none)) else (none))) else (none)) else (none)) else (none)) else (none)) else (none)))) = some r := by first | (rw [hy212]; with_reducible exact H) | (have H2_ := (Option.bind_some _ _).symm.trans H; rw [hy212]; with_reducible exact H2_) | (have H2_ := (Option.bind_some _ _).symm.trans H; with_reducible exact H2_) | with_reducible exact H | (rw [hy212]; exact H) | exact H
 have Ny212 := Aside0.mk hy212
 clear hy212
 replace H := Option.bind_eq_some_iff.mp H
 obtain ⟨⟨t215, t216, t219, t220⟩, A20, H⟩ := H
 replace H : ((draw_BelowNat.f k (([3, 1] : List Int)) 0 (([0, 0, 2] : List Int))).bind fun bt228 => (if t205 = 1 then (if t209 = 3 then (if t210 = 0 then (if t219 = 0 then (if t220 = 8 then ((samphireref02_Same.f k bt228.1 (([3, 0, 1] : List Int))).bind fun t240 => (if t240 = true then (if bt228.2.2.1 = 2 then (if bt228.2.2.2 = 0 then ((draw_Left.f t206 t209).bind fun t241 => (some (t241 == 1))) else (none)) else (none)) else (none))) else (none)) else (none)) else (none)) else (none)) else (none))) = some r := H
 have A2 := Aside0.mk A20
 clear A20
 obtain ⟨y222, hy222⟩ : ∃ y_ : List Int, y_ = (([3, 1] : List Int)) := ⟨_, rfl⟩
 replace H : ((draw_BelowNat.f k y222 0 (([0, 0, 2] : List Int))).bind fun bt228 => (if t205 = 1 then (if t209 = 3 then (if t210 = 0 then (if t219 = 0 then (if t220 = 8 then ((samphireref02_Same.f k bt228.1 (([3, 0, 1] : List Int))).bind fun t240 => (if t240 = true then (if bt228.2.2.1 = 2 then (if bt228.2.2.2 = 0 then ((draw_Left.f t206 t209).bind fun t241 => (some (t241 == 1))) else (none)) else (none)) else (none))) else (none)) else (none)) else (none)) else (none)) else (none))) = some r := by first | (rw [hy222]; with_reducible exact H) | (have H2_ := (Option.bind_some _ _).symm.trans H; rw [hy222]; with_reducible exact H2_) | (have H2_ := (Option.bind_some _ _).symm.trans H; with_reducible exact H2_) | with_reducible exact H | (rw [hy222]; exact H) | exact H
 have Ny222 := Aside0.mk hy222
 clear hy222
 obtain ⟨y225, hy225⟩ : ∃ y_ : List Int, y_ = (([0, 0, 2] : List Int)) := ⟨_, rfl⟩
 replace H : ((draw_BelowNat.f k y222 0 y225).bind fun bt228 => (if t205 = 1 then (if t209 = 3 then (if t210 = 0 then (if t219 = 0 then (if t220 = 8 then ((samphireref02_Same.f k bt228.1 (([3, 0, 1] : List Int))).bind fun t240 => (if t240 = true then (if bt228.2.2.1 = 2 then (if bt228.2.2.2 = 0 then ((draw_Left.f t206 t209).bind fun t241 => (some (t241 == 1))) else (none)) else (none)) else (none))) else (none)) else (none)) else (none)) else (none)) else (none))) = some r := by first | (rw [hy225]; with_reducible exact H) | (have H2_ := (Option.bind_some _ _).symm.trans H; rw [hy225]; with_reducible exact H2_) | (have H2_ := (Option.bind_some _ _).symm.trans H; with_reducible exact H2_) | with_reducible exact H | (rw [hy225]; exact H) | exact H
 have Ny225 := Aside0.mk hy225
 clear hy225
 replace H := Option.bind_eq_some_iff.mp H
 obtain ⟨⟨t228, t231, t234, t235⟩, A30, H⟩ := H
 replace H : (if t205 = 1 then (if t209 = 3 then (if t210 = 0 then (if t219 = 0 then (if t220 = 8 then ((samphireref02_Same.f k t228 (([3, 0, 1] : List Int))).bind fun t240 => (if t240 = true then (if t234 = 2 then (if t235 = 0 then ((draw_Left.f t206 t209).bind fun t241 => (some (t241 == 1))) else (none)) else (none)) else (none))) else (none)) else (none)) else (none)) else (none)) else (none)) = some r := H
 have A3 := Aside0.mk A30
 clear A30
 by_cases c4 : t205 = 1
 ·
  rw [if_pos c4] at H
  have c4b0 : (t205 == 1) = true := beq_iff_eq.mpr c4
  have c4b1 : (t205 != 1) = false := bne_eq_false_iff_eq.mpr c4
  clear c4
  by_cases c5 : t209 = 3
  ·
   rw [if_pos c5] at H
   have c5b0 : (t209 == 3) = true := beq_iff_eq.mpr c5
   have c5b1 : (t209 != 3) = false := bne_eq_false_iff_eq.mpr c5
   clear c5
   by_cases c6 : t210 = 0
   ·
    rw [if_pos c6] at H
    have c6b0 : (t210 == 0) = true := beq_iff_eq.mpr c6
    have c6b1 : (t210 != 0) = false := bne_eq_false_iff_eq.mpr c6
    clear c6
    by_cases c7 : t219 = 0
    ·
     rw [if_pos c7] at H
     have c7b0 : (t219 == 0) = true := beq_iff_eq.mpr c7
     have c7b1 : (t219 != 0) = false := bne_eq_false_iff_eq.mpr c7
     clear c7
     by_cases c8 : t220 = 8
     ·
      rw [if_pos c8] at H
      have c8b0 : (t220 == 8) = true := beq_iff_eq.mpr c8
      have c8b1 : (t220 != 8) = false := bne_eq_false_iff_eq.mpr c8
      clear c8
      obtain ⟨y237, hy237⟩ : ∃ y_ : List Int, y_ = (([3, 0, 1] : List Int)) := ⟨_, rfl⟩
      replace H : ((samphireref02_Same.f k t228 y237).bind fun t240 => (if t240 = true then (if t234 = 2 then (if t235 = 0 then ((draw_Left.f t206 t209).bind fun t241 => (some (t241 == 1))) else (none)) else (none)) else (none))) = some r := by first | (rw [hy237]; with_reducible exact H) | (have H2_ := (Option.bind_some _ _).symm.trans H; rw [hy237]; with_reducible exact H2_) | (have H2_ := (Option.bind_some _ _).symm.trans H; with_reducible exact H2_) | with_reducible exact H | (rw [hy237]; exact H) | exact H
      have Ny237 := Aside0.mk hy237
      clear hy237
      replace H := Option.bind_eq_some_iff.mp H
      obtain ⟨t240, A90, H⟩ := H
      replace H : (if t240 = true then (if t234 = 2 then (if t235 = 0 then ((draw_Left.f t206 t209).bind fun t241 => (some (t241 == 1))) else (none)) else (none)) else (none)) = some r := H
      have A9 := Aside0.mk A90
      clear A90
      by_cases c10 : t240 = true
      ·
       subst c10
       have H1 : (if t234 = 2 then (if t235 = 0 then ((draw_Left.f t206 t209).bind fun t241 => (some (t241 == 1))) else (none)) else (none)) = some r := by rw [if_pos rfl] at H; exact H
       clear H
       have H := H1
       clear H1
       by_cases c11 : t234 = 2
       ·
        rw [if_pos c11] at H
        have c11b0 : (t234 == 2) = true := beq_iff_eq.mpr c11
        have c11b1 : (t234 != 2) = false := bne_eq_false_iff_eq.mpr c11
        clear c11
        by_cases c12 : t235 = 0
        ·
         rw [if_pos c12] at H
         have c12b0 : (t235 == 0) = true := beq_iff_eq.mpr c12
         have c12b1 : (t235 != 0) = false := bne_eq_false_iff_eq.mpr c12
         clear c12
         replace H := Option.bind_eq_some_iff.mp H
         obtain ⟨t241, A130, H⟩ := H
         replace H : (some (t241 == 1)) = some r := H
         have A13 := Aside0.mk A130
         clear A130
         obtain rfl := Option.some.inj H
         go_enter Try.func9, Try.ntmps9
         go_wp2_with (first | ((with_reducible refine gate_dst (N := 11) rfl ?_); (try (refine gate_guard (by rfl) ?_; dsimp only)); refine Kd.R_lit (Kd.int .u64) _ 23 ?hg (N := 11) ?hd (xs := ([13, 14, 9, 2] : List Int)) (inner := [.int .u64 13, .int .u64 14, .int .u64 9, .int .u64 2]) (ok := fun _ => True) (okp := fun _ => True) ?hr ?hp (fun _ hk => hk) trivial (Below.refl _ _) (Nat.le_refl _) (by simp) ?_; (case hd => rfl); (case hg => rfl); (case hr => first | (go_simp; done) | (go_simp; rfl)); (case hp => exact (Reps.one (show Kd.M (Kd.int .u64) _ _ _ 13 [.int .u64 13] from rfl) (Reps.one (show Kd.M (Kd.int .u64) _ _ _ 14 [.int .u64 14] from rfl) (Reps.one (show Kd.M (Kd.int .u64) _ _ _ 9 [.int .u64 9] from rfl) (Reps.one (show Kd.M (Kd.int .u64) _ _ _ 2 [.int .u64 2] from rfl) (Reps.none _ _)))))); intro v203 w14 ho15 hb hg_ hnew_; clear hg_ hnew_; (first | rw [← Ny202.out] at ho15 | (simp only [Int.reduceToNat] at ho15; rw [← Ny202.out] at ho15)); have n0_ := Aside0.mk (Kd.R_lower ho15 (below_size (by repeat (first | (with_reducible first | exact HB.out | apply below_alloc | apply pw_below_drewN | apply below_drew1) | exact HB.out)))); have n1_ := Aside0.mk (below_step (by repeat (first | (with_reducible first | exact HB.out | apply below_alloc | apply pw_below_drewN | apply below_drew1) | exact HB.out)) hb); clear HB; have HO204 := n0_; have HB := n1_; clear n0_ n1_; clear hb ho15; obtain ⟨Ao16, co16, eo16⟩ := Kd.R_slice HO204.out; subst eo16) | ((with_reducible refine gate_callee (f := 10) rfl ?_); refine goesL_ (some 13) rfl rfl Try.func10 (by kernel_rfl) rfl #[.agg #[.slice Ao16 y202.length co16, .int .i64 0], .int .u64 5] rfl (by (try simp only [List.map_toArray, List.map_cons, List.map_nil]); first | done | rfl | (simp only [List.length_drop, List.length_take]; rfl)) ?_; (with_reducible refine (draw_Below.calls k (fun k_ => some k_ = (.slice Ao16 y202.length co16 : Value).ownBlock) _ _ y202 0 5 t205 t206 t209 t210 _ ?side1 A1.out).mono ?_); (case side1 => exact Kd.R_V (Kd.R_tight rfl (HO204.out))); rintro e w17 ⟨v207, rfl, ho0, hb⟩; refine ⟨_, rfl, ?_⟩; have n0_ := Aside0.mk (Kd.R_below (by (with_reducible repeat (first | apply Kd.R_alloc | apply Kd.R_drewN | apply Kd.R_drew)); exact HO204.out) hb); have n1_ := Aside0.mk (Kd.V_lower (Kd.V_mono (ok' := fun k_ => True) ho0 (fun k_ hk_ => trivial)) (below_size (by repeat (first | (with_reducible first | exact HB.out | apply below_alloc | apply pw_below_drewN | apply below_drew1) | exact HB.out)))); have n2_ := Aside0.mk (below_step (by repeat (first | (with_reducible first | exact HB.out | apply below_alloc | apply pw_below_drewN | apply below_drew1) | exact HB.out)) hb); clear HO204; clear HB; have HO204 := n0_; have HO208 := n1_; have HB := n2_; clear n0_ n1_ n2_; (try clear hb); (try clear hb2); (try clear hk); (try clear hi); (try clear ho0)) | ((with_reducible refine gate_dst (N := 2) rfl ?_); (try (refine gate_guard (by rfl) ?_; dsimp only)); refine box_event ?hg (N := 2) ?hd (cs := #[.slice none 0 0, .int .i64 0]) (t := 28) ?hr ?_; (case hd => rfl); (case hg => rfl); (case hr => first | (go_simp; done) | (go_simp; rfl)); intro gb211 hg w18 hbox hb; have n0_ := Aside0.mk (Kd.R_below (by (with_reducible repeat (first | apply Kd.R_alloc | apply Kd.R_drewN | apply Kd.R_drew)); exact HO204.out) hb); have n1_ := Aside0.mk (Kd.V_below (Kd.V_elderB (by (with_reducible repeat (first | apply Kd.V_alloc | apply Kd.V_drewN | apply Kd.V_drew)); exact HO208.out) gb211 (Nat.le_of_eq hg.symm)) hb); have n2_ := Aside0.mk (below_step (by repeat (first | (with_reducible first | exact HB.out | apply below_alloc | apply pw_below_drewN | apply below_drew1) | exact HB.out)) hb); have n3_ := Aside0.mk (hbox); have n4_ := Aside0.mk ((by rw [hg]; exact (below_size (by repeat (first | (with_reducible first | exact HB.out | apply below_alloc | apply pw_below_drewN | apply below_drew1) | exact HB.out))) : w.heap.size ≤ gb211)); have n5_ := Aside0.mk ((by rw [hg]; exact (below_size (by repeat (first | (with_reducible first | exact HB.out | apply below_alloc | apply pw_below_drewN | apply below_drew1) | exact HB.out))) : w.heap.size ≤ gb211)); clear HO204; clear HO208; clear HB; have HO204 := n0_; have HO208 := n1_; have HB := n2_; have BK211 := n3_; have GW211 := n4_; have GE211 := n5_; clear n0_ n1_ n2_ n3_ n4_ n5_; clear hb hbox hg; obtain ⟨Ao19, co19, eo19⟩ := Kd.V_slice HO208.out; subst eo19; have hcz20_0 : w18.cell? ⟨gb211, 0, none⟩ = some (.slice none 0 0) := (blk_cell BK211.out 0).trans rfl; have hcz20_1 : w18.cell? ⟨gb211, 1, none⟩ = some (.int .i64 0) := (blk_cell BK211.out 1).trans rfl; have hfz20_0 := blk_frozen BK211.out 0; have hfz20_1 := blk_frozen BK211.out 1) | ((with_reducible refine gate_dst (N := 18) rfl ?_); (try (refine gate_guard (by rfl) ?_; dsimp only)); refine Kd.R_lit (Kd.int .u64) _ 23 ?hg (N := 18) ?hd (xs := ([7, 6] : List Int)) (inner := [.int .u64 7, .int .u64 6]) (ok := fun _ => True) (okp := fun _ => True) ?hr ?hp (fun _ hk => hk) trivial (Below.refl _ _) (Nat.le_refl _) (by simp) ?_; (case hd => rfl); (case hg => rfl); (case hr => first | (go_simp; done) | (go_simp; rfl)); (case hp => exact (Reps.one (show Kd.M (Kd.int .u64) _ _ _ 7 [.int .u64 7] from rfl) (Reps.one (show Kd.M (Kd.int .u64) _ _ _ 6 [.int .u64 6] from rfl) (Reps.none _ _)))); intro v213 w21 ho22 hb hg_ hnew_; clear hg_ hnew_; (first | rw [← Ny212.out] at ho22 | (simp only [Int.reduceToNat] at ho22; rw [← Ny212.out] at ho22)); have n0_ := Aside0.mk (Kd.R_elder' (by (with_reducible repeat (first | apply Kd.R_alloc | apply Kd.R_drewN | apply Kd.R_drew)); exact (Kd.R_mono (Kd.R_far (p := ⟨gb211, 1, none⟩) (Kd.R_far (p := ⟨gb211, 0, none⟩) (Kd.R_types HO204.out BK211.out (by decide)) (fun _ hk => hk.2) (.slice Ao19 t206.length co19)) (fun _ hk => hk.2) (.int .i64 t209)) (fun _ h_ => h_.1))) (Kd.R_base ho22) hb); have n1_ := Aside0.mk (Kd.V_elder' (by (with_reducible repeat (first | apply Kd.V_alloc | apply Kd.V_drewN | apply Kd.V_drew)); exact (Kd.V_mono (Kd.V_far (p := ⟨gb211, 1, none⟩) (Kd.V_far (p := ⟨gb211, 0, none⟩) (Kd.V_mono HO208.out (fun k_ hk => (⟨hk, hk.2⟩ : _ ∧ k_ ≠ gb211))) (fun _ hk => hk.2) (.slice Ao19 t206.length co19)) (fun _ hk => hk.2) (.int .i64 t209)) (fun _ h_ => h_.1))) (Kd.R_base ho22) hb); have n2_ := Aside0.mk (Kd.R_lower (Kd.R_new' ho22 (Kd.R_lt (by (with_reducible repeat (first | apply Kd.R_alloc | apply Kd.R_drewN | apply Kd.R_drew)); exact (Kd.R_mono (Kd.R_far (p := ⟨gb211, 1, none⟩) (Kd.R_far (p := ⟨gb211, 0, none⟩) (Kd.R_types HO204.out BK211.out (by decide)) (fun _ hk => hk.2) (.slice Ao19 t206.length co19)) (fun _ hk => hk.2) (.int .i64 t209)) (fun _ h_ => h_.1))))) (below_size (by repeat (first | (with_reducible first | exact HB.out | apply below_alloc | apply pw_below_drewN | apply below_drew1 | refine below_set ?_ GE211.out) | exact HB.out)))); have n3_ := Aside0.mk (blk_below (g := gb211) (o := .cells #[.slice Ao19 t206.length co19, .int .i64 t209] 28 (0, 0)) (by (with_reducible repeat (first | refine blk_drewN ?_ _ | refine blk_drew ?_ | refine blk_alloc ?_ _)); refine blk_put (cs := #[.slice Ao19 t206.length co19, .int .i64 0]) ?_ 1 _ rfl; (with_reducible repeat (first | refine blk_drewN ?_ _ | refine blk_drew ?_ | refine blk_alloc ?_ _)); refine blk_put (cs := #[.slice none 0 0, .int .i64 0]) ?_ 0 _ rfl; (with_reducible repeat (first | refine blk_drewN ?_ _ | refine blk_drew ?_ | refine blk_alloc ?_ _)); exact BK211.out) hb); have n4_ := Aside0.mk (below_step (by repeat (first | (with_reducible first | exact HB.out | apply below_alloc | apply pw_below_drewN | apply below_drew1 | refine below_set ?_ GE211.out) | exact HB.out)) hb); clear HO204; clear HO208; clear BK211; clear HB; have HO204 := n0_; have HO208 := n1_; have HO214 := n2_; have BK211 := n3_; have HB := n4_; clear n0_ n1_ n2_ n3_ n4_; clear hb ho22; obtain ⟨Ao23, co23, eo23⟩ := Kd.R_slice HO214.out; subst eo23) | ((with_reducible refine gate_callee (f := 10) rfl ?_); refine goesL_ (some 20) rfl rfl Try.func10 (by kernel_rfl) rfl #[.agg #[.slice Ao23 y212.length co23, .int .i64 0], .int .u64 5] rfl (by (try simp only [List.map_toArray, List.map_cons, List.map_nil]); first | done | rfl | (simp only [List.length_drop, List.length_take]; rfl)) ?_; (with_reducible refine (draw_Below.calls k (fun k_ => some k_ = (.slice Ao23 y212.length co23 : Value).ownBlock) _ _ y212 0 5 t215 t216 t219 t220 _ ?side1 A2.out).mono ?_); (case side1 => exact Kd.R_V (Kd.R_tight rfl (Kd.R_types (HO214.out) BK211.out (by decide)))); rintro e w24 ⟨v217, rfl, ho0, hb⟩; refine ⟨_, rfl, ?_⟩; have n0_ := Aside0.mk (Kd.R_below (by (with_reducible repeat (first | apply Kd.R_alloc | apply Kd.R_drewN | apply Kd.R_drew)); exact HO204.out) hb); have n1_ := Aside0.mk (Kd.V_below (by (with_reducible repeat (first | apply Kd.V_alloc | apply Kd.V_drewN | apply Kd.V_drew)); exact HO208.out) hb); have n2_ := Aside0.mk (Kd.R_below (by (with_reducible repeat (first | apply Kd.R_alloc | apply Kd.R_drewN | apply Kd.R_drew)); exact HO214.out) hb); have n3_ := Aside0.mk (Kd.V_lower (Kd.V_mono (ok' := fun k_ => some k_ ≠ (.slice Ao16 y202.length co16 : Value).ownBlock ∧ k_ ≠ gb211) ho0 (fun k_ hk_ => ⟨Or.elim hk_ (fun hs_ => ((Kd.R_types (HO214.out) BK211.out (by decide)).1 k_ hs_.symm).1.2) (fun hn_ => (Kd.fresh' (Kd.R_lt (by (with_reducible repeat (first | apply Kd.R_alloc | apply Kd.R_drewN | apply Kd.R_drew)); exact HO204.out)) k_ hn_)), Or.elim hk_ (fun hs_ => ((Kd.R_types (HO214.out) BK211.out (by decide)).1 k_ hs_.symm).2) (fun hn_ => (Kd.freshB (g := gb211) (o := .cells #[.slice Ao19 t206.length co19, .int .i64 t209] 28 (0, 0)) (by (with_reducible repeat (first | refine blk_drewN ?_ _ | refine blk_drew ?_ | refine blk_alloc ?_ _)); exact BK211.out) k_ hn_))⟩)) (below_size (by repeat (first | (with_reducible first | exact HB.out | apply below_alloc | apply pw_below_drewN | apply below_drew1 | refine below_set ?_ GE211.out) | exact HB.out)))); have n4_ := Aside0.mk (blk_below (g := gb211) (o := .cells #[.slice Ao19 t206.length co19, .int .i64 t209] 28 (0, 0)) (by (with_reducible repeat (first | refine blk_drewN ?_ _ | refine blk_drew ?_ | refine blk_alloc ?_ _)); exact BK211.out) hb); have n5_ := Aside0.mk (below_step (by repeat (first | (with_reducible first | exact HB.out | apply below_alloc | apply pw_below_drewN | apply below_drew1 | refine below_set ?_ GE211.out) | exact HB.out)) hb); clear HO204; clear HO208; clear HO214; clear BK211; clear HB; have HO204 := n0_; have HO208 := n1_; have HO214 := n2_; have HO218 := n3_; have BK211 := n4_; have HB := n5_; clear n0_ n1_ n2_ n3_ n4_ n5_; (try clear hb); (try clear hb2); (try clear hk); (try clear hi); (try clear ho0)) | ((with_reducible refine gate_dst (N := 5) rfl ?_); (try (refine gate_guard (by rfl) ?_; dsimp only)); refine box_event ?hg (N := 5) ?hd (cs := #[.slice none 0 0, .int .i64 0]) (t := 28) ?hr ?_; (case hd => rfl); (case hg => rfl); (case hr => first | (go_simp; done) | (go_simp; rfl)); intro gb221 hg w25 hbox hb; have n0_ := Aside0.mk (Kd.R_below (by (with_reducible repeat (first | apply Kd.R_alloc | apply Kd.R_drewN | apply Kd.R_drew)); exact HO204.out) hb); have n1_ := Aside0.mk (Kd.V_below (Kd.V_elderB (by (with_reducible repeat (first | apply Kd.V_alloc | apply Kd.V_drewN | apply Kd.V_drew)); exact HO208.out) gb221 (Nat.le_of_eq hg.symm)) hb); have n2_ := Aside0.mk (Kd.R_below (by (with_reducible repeat (first | apply Kd.R_alloc | apply Kd.R_drewN | apply Kd.R_drew)); exact HO214.out) hb); have n3_ := Aside0.mk (Kd.V_below (Kd.V_elderB (by (with_reducible repeat (first | apply Kd.V_alloc | apply Kd.V_drewN | apply Kd.V_drew)); exact HO218.out) gb221 (Nat.le_of_eq hg.symm)) hb); have n4_ := Aside0.mk (blk_below (g := gb211) (o := .cells #[.slice Ao19 t206.length co19, .int .i64 t209] 28 (0, 0)) (by (with_reducible repeat (first | refine blk_drewN ?_ _ | refine blk_drew ?_ | refine blk_alloc ?_ _)); exact BK211.out) hb); have n5_ := Aside0.mk (below_step (by repeat (first | (with_reducible first | exact HB.out | apply below_alloc | apply pw_below_drewN | apply below_drew1 | refine below_set ?_ GE211.out) | exact HB.out)) hb); have n6_ := Aside0.mk (hbox); have n7_ := Aside0.mk ((by rw [hg]; exact (below_size (by repeat (first | (with_reducible first | exact HB.out | apply below_alloc | apply pw_below_drewN | apply below_drew1 | refine below_set ?_ GE211.out) | exact HB.out))) : w.heap.size ≤ gb221)); have n8_ := Aside0.mk ((by rw [hg]; exact (below_size (by repeat (first | (with_reducible first | exact HB.out | apply below_alloc | apply pw_below_drewN | apply below_drew1 | refine below_set ?_ GE211.out) | exact HB.out))) : w.heap.size ≤ gb221)); have n9_ := Aside0.mk ((by rw [hg]; exact Nat.ne_of_lt (blk_lt (g := gb211) (o := .cells #[.slice Ao19 t206.length co19, .int .i64 t209] 28 (0, 0)) (by (with_reducible repeat (first | refine blk_drewN ?_ _ | refine blk_drew ?_ | refine blk_alloc ?_ _)); exact BK211.out)) : gb211 ≠ gb221)); have n10_ := Aside0.mk ((by rw [hg]; exact Nat.ne_of_gt (blk_lt (g := gb211) (o := .cells #[.slice Ao19 t206.length co19, .int .i64 t209] 28 (0, 0)) (by (with_reducible repeat (first | refine blk_drewN ?_ _ | refine blk_drew ?_ | refine blk_alloc ?_ _)); exact BK211.out)) : gb221 ≠ gb211)); clear HO204; clear HO208; clear HO214; clear HO218; clear BK211; clear HB; have HO204 := n0_; have HO208 := n1_; have HO214 := n2_; have HO218 := n3_; have BK211 := n4_; have HB := n5_; have BK221 := n6_; have GW221 := n7_; have GE221 := n8_; have NB211_221 := n9_; have NB221_211 := n10_; clear n0_ n1_ n2_ n3_ n4_ n5_ n6_ n7_ n8_ n9_ n10_; clear hb hbox hg; obtain ⟨Ao26, co26, eo26⟩ := Kd.V_slice HO218.out; subst eo26; have hnb27 := NB221_211.out; have hnc27 := NB211_221.out; have hcz28_0 : w25.cell? ⟨gb221, 0, none⟩ = some (.slice none 0 0) := (blk_cell BK221.out 0).trans rfl; have hcz28_1 : w25.cell? ⟨gb221, 1, none⟩ = some (.int .i64 0) := (blk_cell BK221.out 1).trans rfl; have hfz28_0 := blk_frozen BK221.out 0; have hfz28_1 := blk_frozen BK221.out 1) | ((with_reducible refine gate_dst (N := 25) rfl ?_); (try (refine gate_guard (by rfl) ?_; dsimp only)); refine Kd.R_lit (Kd.int .u64) _ 23 ?hg (N := 25) ?hd (xs := ([3, 1] : List Int)) (inner := [.int .u64 3, .int .u64 1]) (ok := fun _ => True) (okp := fun _ => True) ?hr ?hp (fun _ hk => hk) trivial (Below.refl _ _) (Nat.le_refl _) (by simp) ?_; (case hd => rfl); (case hg => rfl); (case hr => first | (go_simp; done) | (go_simp; rfl)); (case hp => exact (Reps.one (show Kd.M (Kd.int .u64) _ _ _ 3 [.int .u64 3] from rfl) (Reps.one (show Kd.M (Kd.int .u64) _ _ _ 1 [.int .u64 1] from rfl) (Reps.none _ _)))); intro v223 w29 ho30 hb hg_ hnew_; clear hg_ hnew_; (first | rw [← Ny222.out] at ho30 | (simp only [Int.reduceToNat] at ho30; rw [← Ny222.out] at ho30)); have n0_ := Aside0.mk (Kd.R_elder' (by (with_reducible repeat (first | apply Kd.R_alloc | apply Kd.R_drewN | apply Kd.R_drew)); exact (Kd.R_mono (Kd.R_far (p := ⟨gb221, 1, none⟩) (Kd.R_far (p := ⟨gb221, 0, none⟩) (Kd.R_types HO204.out BK221.out (by decide)) (fun _ hk => hk.2) (.slice Ao26 t216.length co26)) (fun _ hk => hk.2) (.int .i64 t219)) (fun _ h_ => h_.1))) (Kd.R_base ho30) hb); have n1_ := Aside0.mk (Kd.V_elder' (by (with_reducible repeat (first | apply Kd.V_alloc | apply Kd.V_drewN | apply Kd.V_drew)); exact (Kd.V_mono (Kd.V_far (p := ⟨gb221, 1, none⟩) (Kd.V_far (p := ⟨gb221, 0, none⟩) (Kd.V_mono HO208.out (fun k_ hk => (⟨hk, hk.2⟩ : _ ∧ k_ ≠ gb221))) (fun _ hk => hk.2) (.slice Ao26 t216.length co26)) (fun _ hk => hk.2) (.int .i64 t219)) (fun _ h_ => h_.1))) (Kd.R_base ho30) hb); have n2_ := Aside0.mk (Kd.R_elder' (by (with_reducible repeat (first | apply Kd.R_alloc | apply Kd.R_drewN | apply Kd.R_drew)); exact (Kd.R_mono (Kd.R_far (p := ⟨gb221, 1, none⟩) (Kd.R_far (p := ⟨gb221, 0, none⟩) (Kd.R_types HO214.out BK221.out (by decide)) (fun _ hk => hk.2) (.slice Ao26 t216.length co26)) (fun _ hk => hk.2) (.int .i64 t219)) (fun _ h_ => h_.1))) (Kd.R_base ho30) hb); have n3_ := Aside0.mk (Kd.V_elder' (by (with_reducible repeat (first | apply Kd.V_alloc | apply Kd.V_drewN | apply Kd.V_drew)); exact (Kd.V_mono (Kd.V_far (p := ⟨gb221, 1, none⟩) (Kd.V_far (p := ⟨gb221, 0, none⟩) (Kd.V_mono HO218.out (fun k_ hk => (⟨hk, hk.2⟩ : _ ∧ k_ ≠ gb221))) (fun _ hk => hk.2) (.slice Ao26 t216.length co26)) (fun _ hk => hk.2) (.int .i64 t219)) (fun _ h_ => h_.1))) (Kd.R_base ho30) hb); have n4_ := Aside0.mk (Kd.R_lower (Kd.R_new' (Kd.R_new' ho30 (Kd.R_lt (by (with_reducible repeat (first | apply Kd.R_alloc | apply Kd.R_drewN | apply Kd.R_drew)); exact (Kd.R_mono (Kd.R_far (p := ⟨gb221, 1, none⟩) (Kd.R_far (p := ⟨gb221, 0, none⟩) (Kd.R_types HO204.out BK221.out (by decide)) (fun _ hk => hk.2) (.slice Ao26 t216.length co26)) (fun _ hk => hk.2) (.int .i64 t219)) (fun _ h_ => h_.1))))) (Kd.R_lt (by (with_reducible repeat (first | apply Kd.R_alloc | apply Kd.R_drewN | apply Kd.R_drew)); exact (Kd.R_mono (Kd.R_far (p := ⟨gb221, 1, none⟩) (Kd.R_far (p := ⟨gb221, 0, none⟩) (Kd.R_types HO214.out BK221.out (by decide)) (fun _ hk => hk.2) (.slice Ao26 t216.length co26)) (fun _ hk => hk.2) (.int .i64 t219)) (fun _ h_ => h_.1))))) (below_size (by repeat (first | (with_reducible first | exact HB.out | apply below_alloc | apply pw_below_drewN | apply below_drew1 | refine below_set ?_ GE211.out | refine below_set ?_ GE221.out) | exact HB.out)))); have n5_ := Aside0.mk (blk_below (g := gb211) (o := .cells #[.slice Ao19 t206.length co19, .int .i64 t209] 28 (0, 0)) (by (with_reducible repeat (first | refine blk_drewN ?_ _ | refine blk_drew ?_ | refine blk_alloc ?_ _)); refine blk_far ?_ NB211_221.out _; (with_reducible repeat (first | refine blk_drewN ?_ _ | refine blk_drew ?_ | refine blk_alloc ?_ _)); refine blk_far ?_ NB211_221.out _; (with_reducible repeat (first | refine blk_drewN ?_ _ | refine blk_drew ?_ | refine blk_alloc ?_ _)); exact BK211.out) hb); have n6_ := Aside0.mk (blk_below (g := gb221) (o := .cells #[.slice Ao26 t216.length co26, .int .i64 t219] 28 (0, 0)) (by (with_reducible repeat (first | refine blk_drewN ?_ _ | refine blk_drew ?_ | refine blk_alloc ?_ _)); refine blk_put (cs := #[.slice Ao26 t216.length co26, .int .i64 0]) ?_ 1 _ rfl; (with_reducible repeat (first | refine blk_drewN ?_ _ | refine blk_drew ?_ | refine blk_alloc ?_ _)); refine blk_put (cs := #[.slice none 0 0, .int .i64 0]) ?_ 0 _ rfl; (with_reducible repeat (first | refine blk_drewN ?_ _ | refine blk_drew ?_ | refine blk_alloc ?_ _)); exact BK221.out) hb); have n7_ := Aside0.mk (below_step (by repeat (first | (with_reducible first | exact HB.out | apply below_alloc | apply pw_below_drewN | apply below_drew1 | refine below_set ?_ GE211.out | refine below_set ?_ GE221.out) | exact HB.out)) hb); clear HO204; clear HO208; clear HO214; clear HO218; clear BK211; clear BK221; clear HB; have HO204 := n0_; have HO208 := n1_; have HO214 := n2_; have HO218 := n3_; have HO224 := n4_; have BK211 := n5_; have BK221 := n6_; have HB := n7_; clear n0_ n1_ n2_ n3_ n4_ n5_ n6_ n7_; clear hb ho30; obtain ⟨Ao31, co31, eo31⟩ := Kd.R_slice HO224.out; subst eo31) | ((with_reducible refine gate_dst (N := 27) rfl ?_); (try (refine gate_guard (by rfl) ?_; dsimp only)); refine Kd.R_lit (Kd.int .u32) _ 48 ?hg (N := 27) ?hd (xs := ([0, 0, 2] : List Int)) (inner := [.int .u32 0, .int .u32 0, .int .u32 2]) (ok := fun _ => True) (okp := fun _ => True) ?hr ?hp (fun _ hk => hk) trivial (Below.refl _ _) (Nat.le_refl _) (by simp) ?_; (case hd => rfl); (case hg => rfl); (case hr => first | (go_simp; done) | (go_simp; rfl)); (case hp => exact (Reps.one (show Kd.M (Kd.int .u32) _ _ _ 0 [.int .u32 0] from rfl) (Reps.one (show Kd.M (Kd.int .u32) _ _ _ 0 [.int .u32 0] from rfl) (Reps.one (show Kd.M (Kd.int .u32) _ _ _ 2 [.int .u32 2] from rfl) (Reps.none _ _))))); intro v226 w32 ho33 hb hg_ hnew_; clear hg_ hnew_; (first | rw [← Ny225.out] at ho33 | (simp only [Int.reduceToNat] at ho33; rw [← Ny225.out] at ho33)); have n0_ := Aside0.mk (Kd.R_below (by (with_reducible repeat (first | apply Kd.R_alloc | apply Kd.R_drewN | apply Kd.R_drew)); exact HO204.out) hb); have n1_ := Aside0.mk (Kd.V_elder' (by (with_reducible repeat (first | apply Kd.V_alloc | apply Kd.V_drewN | apply Kd.V_drew)); exact HO208.out) (Kd.R_base ho33) hb); have n2_ := Aside0.mk (Kd.R_below (by (with_reducible repeat (first | apply Kd.R_alloc | apply Kd.R_drewN | apply Kd.R_drew)); exact HO214.out) hb); have n3_ := Aside0.mk (Kd.V_elder' (by (with_reducible repeat (first | apply Kd.V_alloc | apply Kd.V_drewN | apply Kd.V_drew)); exact HO218.out) (Kd.R_base ho33) hb); have n4_ := Aside0.mk (Kd.R_below (by (with_reducible repeat (first | apply Kd.R_alloc | apply Kd.R_drewN | apply Kd.R_drew)); exact HO224.out) hb); have n5_ := Aside0.mk (Kd.R_lower ho33 (below_size (by repeat (first | (with_reducible first | exact HB.out | apply below_alloc | apply pw_below_drewN | apply below_drew1 | refine below_set ?_ GE211.out | refine below_set ?_ GE221.out) | exact HB.out)))); have n6_ := Aside0.mk (blk_below (g := gb211) (o := .cells #[.slice Ao19 t206.length co19, .int .i64 t209] 28 (0, 0)) (by (with_reducible repeat (first | refine blk_drewN ?_ _ | refine blk_drew ?_ | refine blk_alloc ?_ _)); exact BK211.out) hb); have n7_ := Aside0.mk (blk_below (g := gb221) (o := .cells #[.slice Ao26 t216.length co26, .int .i64 t219] 28 (0, 0)) (by (with_reducible repeat (first | refine blk_drewN ?_ _ | refine blk_drew ?_ | refine blk_alloc ?_ _)); exact BK221.out) hb); have n8_ := Aside0.mk (below_step (by repeat (first | (with_reducible first | exact HB.out | apply below_alloc | apply pw_below_drewN | apply below_drew1 | refine below_set ?_ GE211.out | refine below_set ?_ GE221.out) | exact HB.out)) hb); clear HO204; clear HO208; clear HO214; clear HO218; clear HO224; clear BK211; clear BK221; clear HB; have HO204 := n0_; have HO208 := n1_; have HO214 := n2_; have HO218 := n3_; have HO224 := n4_; have HO227 := n5_; have BK211 := n6_; have BK221 := n7_; have HB := n8_; clear n0_ n1_ n2_ n3_ n4_ n5_ n6_ n7_ n8_; clear hb ho33; obtain ⟨Ao34, co34, eo34⟩ := Kd.R_slice HO227.out; subst eo34) | ((with_reducible refine gate_callee (f := 14) rfl ?_); refine goesL_ (some 28) rfl rfl Try.func14 (by kernel_rfl) rfl #[.agg #[.slice Ao31 y222.length co31, .int .i64 0], .slice Ao34 y225.length co34] rfl (by (try simp only [List.map_toArray, List.map_cons, List.map_nil]); first | done | rfl | (simp only [List.length_drop, List.length_take]; rfl)) ?_; (with_reducible refine (draw_BelowNat.calls k (fun k_ => some k_ = (.slice Ao31 y222.length co31 : Value).ownBlock) _ _ y222 0 _ _ y225 t228 t231 t234 t235 _ ?side1 ?side2 ?side3 A3.out).mono ?_); (case side1 => exact Kd.R_V (Kd.R_tight rfl (Kd.R_types (Kd.R_types (Kd.R_apart' (HO224.out) (Kd.R_typed HO227.out) (by decide)) BK211.out (by decide)) BK221.out (by decide)))); (case side2 => repeat (first | exact (Kd.R_reads' HO227.out).2.2 | (with_reducible refine Kd.C_alloc ?_ _) | (with_reducible refine Kd.C_drewN ?_ _) | (with_reducible refine Kd.C_drew ?_))); (case side3 => exact (Kd.R_reads' HO227.out).2.1); rintro e w35 ⟨v229, v232, rfl, ho0, ho1, hb⟩; refine ⟨_, rfl, ?_⟩; have n0_ := Aside0.mk (Kd.R_below (by (with_reducible repeat (first | apply Kd.R_alloc | apply Kd.R_drewN | apply Kd.R_drew)); exact HO204.out) hb); have n1_ := Aside0.mk (Kd.V_elder' (by (with_reducible repeat (first | apply Kd.V_alloc | apply Kd.V_drewN | apply Kd.V_drew)); exact HO208.out) (Kd.R_base ho0) hb); have n2_ := Aside0.mk (Kd.R_below (by (with_reducible repeat (first | apply Kd.R_alloc | apply Kd.R_drewN | apply Kd.R_drew)); exact HO214.out) hb); have n3_ := Aside0.mk (Kd.V_elder' (by (with_reducible repeat (first | apply Kd.V_alloc | apply Kd.V_drewN | apply Kd.V_drew)); exact HO218.out) (Kd.R_base ho0) hb); have n4_ := Aside0.mk (Kd.R_below (by (with_reducible repeat (first | apply Kd.R_alloc | apply Kd.R_drewN | apply Kd.R_drew)); exact HO224.out) hb); have n5_ := Aside0.mk (Kd.R_elder' (by (with_reducible repeat (first | apply Kd.R_alloc | apply Kd.R_drewN | apply Kd.R_drew)); exact HO227.out) (Kd.R_base ho0) hb); have n6_ := Aside0.mk (Kd.R_lower (Kd.R_new' (Kd.R_mono (ok' := fun k_ => True) ho0 (fun _ hk_ => trivial)) (Kd.R_lt (by (with_reducible repeat (first | apply Kd.R_alloc | apply Kd.R_drewN | apply Kd.R_drew)); exact HO227.out))) (below_size (by repeat (first | (with_reducible first | exact HB.out | apply below_alloc | apply pw_below_drewN | apply below_drew1 | refine below_set ?_ GE211.out | refine below_set ?_ GE221.out) | exact HB.out)))); have n7_ := Aside0.mk (Kd.V_lower (Kd.V_mono (ok' := fun k_ => some k_ ≠ (v229 : Value).ownBlock ∧ some k_ ≠ (.slice Ao16 y202.length co16 : Value).ownBlock ∧ some k_ ≠ (.slice Ao23 y212.length co23 : Value).ownBlock ∧ some k_ ≠ (.slice Ao34 y225.length co34 : Value).ownBlock ∧ k_ ≠ gb211 ∧ k_ ≠ gb221) ho1 (fun k_ hk_ => ⟨hk_.2, Or.elim hk_.1 (fun hs_ => ((Kd.R_types (Kd.R_types (Kd.R_apart' (HO224.out) (Kd.R_typed HO227.out) (by decide)) BK211.out (by decide)) BK221.out (by decide)).1 k_ hs_.symm).1.1.1.1.2) (fun hn_ => (Kd.fresh' (Kd.R_lt (by (with_reducible repeat (first | apply Kd.R_alloc | apply Kd.R_drewN | apply Kd.R_drew)); exact HO204.out)) k_ hn_)), Or.elim hk_.1 (fun hs_ => ((Kd.R_types (Kd.R_types (Kd.R_apart' (HO224.out) (Kd.R_typed HO227.out) (by decide)) BK211.out (by decide)) BK221.out (by decide)).1 k_ hs_.symm).1.1.1.2) (fun hn_ => (Kd.fresh' (Kd.R_lt (by (with_reducible repeat (first | apply Kd.R_alloc | apply Kd.R_drewN | apply Kd.R_drew)); exact HO214.out)) k_ hn_)), Or.elim hk_.1 (fun hs_ => ((Kd.R_types (Kd.R_types (Kd.R_apart' (HO224.out) (Kd.R_typed HO227.out) (by decide)) BK211.out (by decide)) BK221.out (by decide)).1 k_ hs_.symm).1.1.2) (fun hn_ => (Kd.fresh' (Kd.R_lt (by (with_reducible repeat (first | apply Kd.R_alloc | apply Kd.R_drewN | apply Kd.R_drew)); exact HO227.out)) k_ hn_)), Or.elim hk_.1 (fun hs_ => ((Kd.R_types (Kd.R_types (Kd.R_apart' (HO224.out) (Kd.R_typed HO227.out) (by decide)) BK211.out (by decide)) BK221.out (by decide)).1 k_ hs_.symm).1.2) (fun hn_ => (Kd.freshB (g := gb211) (o := .cells #[.slice Ao19 t206.length co19, .int .i64 t209] 28 (0, 0)) (by (with_reducible repeat (first | refine blk_drewN ?_ _ | refine blk_drew ?_ | refine blk_alloc ?_ _)); exact BK211.out) k_ hn_)), Or.elim hk_.1 (fun hs_ => ((Kd.R_types (Kd.R_types (Kd.R_apart' (HO224.out) (Kd.R_typed HO227.out) (by decide)) BK211.out (by decide)) BK221.out (by decide)).1 k_ hs_.symm).2) (fun hn_ => (Kd.freshB (g := gb221) (o := .cells #[.slice Ao26 t216.length co26, .int .i64 t219] 28 (0, 0)) (by (with_reducible repeat (first | refine blk_drewN ?_ _ | refine blk_drew ?_ | refine blk_alloc ?_ _)); exact BK221.out) k_ hn_))⟩)) (below_size (by repeat (first | (with_reducible first | exact HB.out | apply below_alloc | apply pw_below_drewN | apply below_drew1 | refine below_set ?_ GE211.out | refine below_set ?_ GE221.out) | exact HB.out)))); have n8_ := Aside0.mk (blk_below (g := gb211) (o := .cells #[.slice Ao19 t206.length co19, .int .i64 t209] 28 (0, 0)) (by (with_reducible repeat (first | refine blk_drewN ?_ _ | refine blk_drew ?_ | refine blk_alloc ?_ _)); exact BK211.out) hb); have n9_ := Aside0.mk (blk_below (g := gb221) (o := .cells #[.slice Ao26 t216.length co26, .int .i64 t219] 28 (0, 0)) (by (with_reducible repeat (first | refine blk_drewN ?_ _ | refine blk_drew ?_ | refine blk_alloc ?_ _)); exact BK221.out) hb); have n10_ := Aside0.mk (below_step (by repeat (first | (with_reducible first | exact HB.out | apply below_alloc | apply pw_below_drewN | apply below_drew1 | refine below_set ?_ GE211.out | refine below_set ?_ GE221.out) | exact HB.out)) hb); clear HO204; clear HO208; clear HO214; clear HO218; clear HO224; clear HO227; clear BK211; clear BK221; clear HB; have HO204 := n0_; have HO208 := n1_; have HO214 := n2_; have HO218 := n3_; have HO224 := n4_; have HO227 := n5_; have HO230 := n6_; have HO233 := n7_; have BK211 := n8_; have BK221 := n9_; have HB := n10_; clear n0_ n1_ n2_ n3_ n4_ n5_ n6_ n7_ n8_ n9_ n10_; (try clear hb); (try clear hb2); (try clear hk); (try clear hi); (try clear ho0); (try clear ho1)) | ((with_reducible refine gate_dst (N := 8) rfl ?_); (try (refine gate_guard (by rfl) ?_; dsimp only)); refine box_event ?hg (N := 8) ?hd (cs := #[.slice none 0 0, .int .i64 0]) (t := 28) ?hr ?_; (case hd => rfl); (case hg => rfl); (case hr => first | (go_simp; done) | (go_simp; rfl)); intro gb236 hg w36 hbox hb; have n0_ := Aside0.mk (Kd.R_below (by (with_reducible repeat (first | apply Kd.R_alloc | apply Kd.R_drewN | apply Kd.R_drew)); exact HO204.out) hb); have n1_ := Aside0.mk (Kd.V_below (Kd.V_elderB (by (with_reducible repeat (first | apply Kd.V_alloc | apply Kd.V_drewN | apply Kd.V_drew)); exact HO208.out) gb236 (Nat.le_of_eq hg.symm)) hb); have n2_ := Aside0.mk (Kd.R_below (by (with_reducible repeat (first | apply Kd.R_alloc | apply Kd.R_drewN | apply Kd.R_drew)); exact HO214.out) hb); have n3_ := Aside0.mk (Kd.V_below (Kd.V_elderB (by (with_reducible repeat (first | apply Kd.V_alloc | apply Kd.V_drewN | apply Kd.V_drew)); exact HO218.out) gb236 (Nat.le_of_eq hg.symm)) hb); have n4_ := Aside0.mk (Kd.R_below (by (with_reducible repeat (first | apply Kd.R_alloc | apply Kd.R_drewN | apply Kd.R_drew)); exact HO224.out) hb); have n5_ := Aside0.mk (Kd.R_below (by (with_reducible repeat (first | apply Kd.R_alloc | apply Kd.R_drewN | apply Kd.R_drew)); exact HO227.out) hb); have n6_ := Aside0.mk (Kd.R_below (by (with_reducible repeat (first | apply Kd.R_alloc | apply Kd.R_drewN | apply Kd.R_drew)); exact HO230.out) hb); have n7_ := Aside0.mk (Kd.V_below (Kd.V_elderB (by (with_reducible repeat (first | apply Kd.V_alloc | apply Kd.V_drewN | apply Kd.V_drew)); exact HO233.out) gb236 (Nat.le_of_eq hg.symm)) hb); have n8_ := Aside0.mk (blk_below (g := gb211) (o := .cells #[.slice Ao19 t206.length co19, .int .i64 t209] 28 (0, 0)) (by (with_reducible repeat (first | refine blk_drewN ?_ _ | refine blk_drew ?_ | refine blk_alloc ?_ _)); exact BK211.out) hb); have n9_ := Aside0.mk (blk_below (g := gb221) (o := .cells #[.slice Ao26 t216.length co26, .int .i64 t219] 28 (0, 0)) (by (with_reducible repeat (first | refine blk_drewN ?_ _ | refine blk_drew ?_ | refine blk_alloc ?_ _)); exact BK221.out) hb); have n10_ := Aside0.mk (below_step (by repeat (first | (with_reducible first | exact HB.out | apply below_alloc | apply pw_below_drewN | apply below_drew1 | refine below_set ?_ GE211.out | refine below_set ?_ GE221.out) | exact HB.out)) hb); have n11_ := Aside0.mk (hbox); have n12_ := Aside0.mk ((by rw [hg]; exact (below_size (by repeat (first | (with_reducible first | exact HB.out | apply below_alloc | apply pw_below_drewN | apply below_drew1 | refine below_set ?_ GE211.out | refine below_set ?_ GE221.out) | exact HB.out))) : w.heap.size ≤ gb236)); have n13_ := Aside0.mk ((by rw [hg]; exact (below_size (by repeat (first | (with_reducible first | exact HB.out | apply below_alloc | apply pw_below_drewN | apply below_drew1 | refine below_set ?_ GE211.out | refine below_set ?_ GE221.out) | exact HB.out))) : w.heap.size ≤ gb236)); have n14_ := Aside0.mk ((by rw [hg]; exact Nat.ne_of_lt (blk_lt (g := gb211) (o := .cells #[.slice Ao19 t206.length co19, .int .i64 t209] 28 (0, 0)) (by (with_reducible repeat (first | refine blk_drewN ?_ _ | refine blk_drew ?_ | refine blk_alloc ?_ _)); exact BK211.out)) : gb211 ≠ gb236)); have n15_ := Aside0.mk ((by rw [hg]; exact Nat.ne_of_gt (blk_lt (g := gb211) (o := .cells #[.slice Ao19 t206.length co19, .int .i64 t209] 28 (0, 0)) (by (with_reducible repeat (first | refine blk_drewN ?_ _ | refine blk_drew ?_ | refine blk_alloc ?_ _)); exact BK211.out)) : gb236 ≠ gb211)); have n16_ := Aside0.mk ((by rw [hg]; exact Nat.ne_of_lt (blk_lt (g := gb221) (o := .cells #[.slice Ao26 t216.length co26, .int .i64 t219] 28 (0, 0)) (by (with_reducible repeat (first | refine blk_drewN ?_ _ | refine blk_drew ?_ | refine blk_alloc ?_ _)); exact BK221.out)) : gb221 ≠ gb236)); have n17_ := Aside0.mk ((by rw [hg]; exact Nat.ne_of_gt (blk_lt (g := gb221) (o := .cells #[.slice Ao26 t216.length co26, .int .i64 t219] 28 (0, 0)) (by (with_reducible repeat (first | refine blk_drewN ?_ _ | refine blk_drew ?_ | refine blk_alloc ?_ _)); exact BK221.out)) : gb236 ≠ gb221)); clear HO204; clear HO208; clear HO214; clear HO218; clear HO224; clear HO227; clear HO230; clear HO233; clear BK211; clear BK221; clear HB; have HO204 := n0_; have HO208 := n1_; have HO214 := n2_; have HO218 := n3_; have HO224 := n4_; have HO227 := n5_; have HO230 := n6_; have HO233 := n7_; have BK211 := n8_; have BK221 := n9_; have HB := n10_; have BK236 := n11_; have GW236 := n12_; have GE236 := n13_; have NB211_236 := n14_; have NB236_211 := n15_; have NB221_236 := n16_; have NB236_221 := n17_; clear n0_ n1_ n2_ n3_ n4_ n5_ n6_ n7_ n8_ n9_ n10_ n11_ n12_ n13_ n14_ n15_ n16_ n17_; clear hb hbox hg; obtain ⟨Ao37, co37, eo37⟩ := Kd.V_slice HO233.out; subst eo37; have hnb38 := NB236_211.out; have hnc38 := NB211_236.out; have hnb39 := NB236_221.out; have hnc39 := NB221_236.out; have hcz40_0 : w36.cell? ⟨gb236, 0, none⟩ = some (.slice none 0 0) := (blk_cell BK236.out 0).trans rfl; have hcz40_1 : w36.cell? ⟨gb236, 1, none⟩ = some (.int .i64 0) := (blk_cell BK236.out 1).trans rfl; have hfz40_0 := blk_frozen BK236.out 0; have hfz40_1 := blk_frozen BK236.out 1; have hcz41_0 : w36.cell? ⟨gb211, 0, none⟩ = some (.slice Ao19 t206.length co19) := (blk_cell BK211.out 0).trans rfl; have hcz41_1 : w36.cell? ⟨gb211, 1, none⟩ = some (.int .i64 t209) := (blk_cell BK211.out 1).trans rfl; have hfz41_0 := blk_frozen BK211.out 0; have hfz41_1 := blk_frozen BK211.out 1; have hcz42_0 : w36.cell? ⟨gb221, 0, none⟩ = some (.slice Ao26 t216.length co26) := (blk_cell BK221.out 0).trans rfl; have hcz42_1 : w36.cell? ⟨gb221, 1, none⟩ = some (.int .i64 t219) := (blk_cell BK221.out 1).trans rfl; have hfz42_0 := blk_frozen BK221.out 0; have hfz42_1 := blk_frozen BK221.out 1) | ((with_reducible refine gate_dst (N := 54) rfl ?_); (try (refine gate_guard (by rfl) ?_; dsimp only)); refine Kd.R_lit (Kd.int .u32) _ 48 ?hg (N := 54) ?hd (xs := ([3, 0, 1] : List Int)) (inner := [.int .u32 3, .int .u32 0, .int .u32 1]) (ok := fun _ => True) (okp := fun _ => True) ?hr ?hp (fun _ hk => hk) trivial (Below.refl _ _) (Nat.le_refl _) (by simp) ?_; (case hd => rfl); (case hg => rfl); (case hr => first | (go_simp; done) | (go_simp; rfl)); (case hp => exact (Reps.one (show Kd.M (Kd.int .u32) _ _ _ 3 [.int .u32 3] from rfl) (Reps.one (show Kd.M (Kd.int .u32) _ _ _ 0 [.int .u32 0] from rfl) (Reps.one (show Kd.M (Kd.int .u32) _ _ _ 1 [.int .u32 1] from rfl) (Reps.none _ _))))); intro v238 w43 ho44 hb hg_ hnew_; clear hg_ hnew_; (first | rw [← Ny237.out] at ho44 | (simp only [Int.reduceToNat] at ho44; rw [← Ny237.out] at ho44)); have n0_ := Aside0.mk (Kd.R_below (by (with_reducible repeat (first | apply Kd.R_alloc | apply Kd.R_drewN | apply Kd.R_drew)); exact (Kd.R_mono (Kd.R_far (p := ⟨gb236, 1, none⟩) (Kd.R_far (p := ⟨gb236, 0, none⟩) (Kd.R_types HO204.out BK236.out (by decide)) (fun _ hk => hk.2) (.slice Ao37 t231.length co37)) (fun _ hk => hk.2) (.int .i64 t234)) (fun _ h_ => h_.1))) hb); have n1_ := Aside0.mk (Kd.V_elder' (by (with_reducible repeat (first | apply Kd.V_alloc | apply Kd.V_drewN | apply Kd.V_drew)); exact (Kd.V_mono (Kd.V_far (p := ⟨gb236, 1, none⟩) (Kd.V_far (p := ⟨gb236, 0, none⟩) (Kd.V_mono HO208.out (fun k_ hk => (⟨hk, hk.2⟩ : _ ∧ k_ ≠ gb236))) (fun _ hk => hk.2) (.slice Ao37 t231.length co37)) (fun _ hk => hk.2) (.int .i64 t234)) (fun _ h_ => h_.1))) (Kd.R_base ho44) hb); have n2_ := Aside0.mk (Kd.R_below (by (with_reducible repeat (first | apply Kd.R_alloc | apply Kd.R_drewN | apply Kd.R_drew)); exact (Kd.R_mono (Kd.R_far (p := ⟨gb236, 1, none⟩) (Kd.R_far (p := ⟨gb236, 0, none⟩) (Kd.R_types HO214.out BK236.out (by decide)) (fun _ hk => hk.2) (.slice Ao37 t231.length co37)) (fun _ hk => hk.2) (.int .i64 t234)) (fun _ h_ => h_.1))) hb); have n3_ := Aside0.mk (Kd.V_elder' (by (with_reducible repeat (first | apply Kd.V_alloc | apply Kd.V_drewN | apply Kd.V_drew)); exact (Kd.V_mono (Kd.V_far (p := ⟨gb236, 1, none⟩) (Kd.V_far (p := ⟨gb236, 0, none⟩) (Kd.V_mono HO218.out (fun k_ hk => (⟨hk, hk.2⟩ : _ ∧ k_ ≠ gb236))) (fun _ hk => hk.2) (.slice Ao37 t231.length co37)) (fun _ hk => hk.2) (.int .i64 t234)) (fun _ h_ => h_.1))) (Kd.R_base ho44) hb); have n4_ := Aside0.mk (Kd.R_below (by (with_reducible repeat (first | apply Kd.R_alloc | apply Kd.R_drewN | apply Kd.R_drew)); exact (Kd.R_mono (Kd.R_far (p := ⟨gb236, 1, none⟩) (Kd.R_far (p := ⟨gb236, 0, none⟩) (Kd.R_types HO224.out BK236.out (by decide)) (fun _ hk => hk.2) (.slice Ao37 t231.length co37)) (fun _ hk => hk.2) (.int .i64 t234)) (fun _ h_ => h_.1))) hb); have n5_ := Aside0.mk (Kd.R_elder' (by (with_reducible repeat (first | apply Kd.R_alloc | apply Kd.R_drewN | apply Kd.R_drew)); exact (Kd.R_mono (Kd.R_far (p := ⟨gb236, 1, none⟩) (Kd.R_far (p := ⟨gb236, 0, none⟩) (Kd.R_types HO227.out BK236.out (by decide)) (fun _ hk => hk.2) (.slice Ao37 t231.length co37)) (fun _ hk => hk.2) (.int .i64 t234)) (fun _ h_ => h_.1))) (Kd.R_base ho44) hb); have n6_ := Aside0.mk (Kd.R_elder' (by (with_reducible repeat (first | apply Kd.R_alloc | apply Kd.R_drewN | apply Kd.R_drew)); exact (Kd.R_mono (Kd.R_far (p := ⟨gb236, 1, none⟩) (Kd.R_far (p := ⟨gb236, 0, none⟩) (Kd.R_types HO230.out BK236.out (by decide)) (fun _ hk => hk.2) (.slice Ao37 t231.length co37)) (fun _ hk => hk.2) (.int .i64 t234)) (fun _ h_ => h_.1))) (Kd.R_base ho44) hb); have n7_ := Aside0.mk (Kd.V_elder' (by (with_reducible repeat (first | apply Kd.V_alloc | apply Kd.V_drewN | apply Kd.V_drew)); exact (Kd.V_mono (Kd.V_far (p := ⟨gb236, 1, none⟩) (Kd.V_far (p := ⟨gb236, 0, none⟩) (Kd.V_mono HO233.out (fun k_ hk => (⟨hk, hk.2⟩ : _ ∧ k_ ≠ gb236))) (fun _ hk => hk.2) (.slice Ao37 t231.length co37)) (fun _ hk => hk.2) (.int .i64 t234)) (fun _ h_ => h_.1))) (Kd.R_base ho44) hb); have n8_ := Aside0.mk (Kd.R_lower (Kd.R_new' (Kd.R_new' ho44 (Kd.R_lt (by (with_reducible repeat (first | apply Kd.R_alloc | apply Kd.R_drewN | apply Kd.R_drew)); exact (Kd.R_mono (Kd.R_far (p := ⟨gb236, 1, none⟩) (Kd.R_far (p := ⟨gb236, 0, none⟩) (Kd.R_types HO227.out BK236.out (by decide)) (fun _ hk => hk.2) (.slice Ao37 t231.length co37)) (fun _ hk => hk.2) (.int .i64 t234)) (fun _ h_ => h_.1))))) (Kd.R_lt (by (with_reducible repeat (first | apply Kd.R_alloc | apply Kd.R_drewN | apply Kd.R_drew)); exact (Kd.R_mono (Kd.R_far (p := ⟨gb236, 1, none⟩) (Kd.R_far (p := ⟨gb236, 0, none⟩) (Kd.R_types HO230.out BK236.out (by decide)) (fun _ hk => hk.2) (.slice Ao37 t231.length co37)) (fun _ hk => hk.2) (.int .i64 t234)) (fun _ h_ => h_.1))))) (below_size (by repeat (first | (with_reducible first | exact HB.out | apply below_alloc | apply pw_below_drewN | apply below_drew1 | refine below_set ?_ GE211.out | refine below_set ?_ GE221.out | refine below_set ?_ GE236.out) | exact HB.out)))); have n9_ := Aside0.mk (blk_below (g := gb211) (o := .cells #[.slice Ao19 t206.length co19, .int .i64 t209] 28 (0, 0)) (by (with_reducible repeat (first | refine blk_drewN ?_ _ | refine blk_drew ?_ | refine blk_alloc ?_ _)); refine blk_far ?_ NB211_236.out _; (with_reducible repeat (first | refine blk_drewN ?_ _ | refine blk_drew ?_ | refine blk_alloc ?_ _)); refine blk_far ?_ NB211_236.out _; (with_reducible repeat (first | refine blk_drewN ?_ _ | refine blk_drew ?_ | refine blk_alloc ?_ _)); exact BK211.out) hb); have n10_ := Aside0.mk (blk_below (g := gb221) (o := .cells #[.slice Ao26 t216.length co26, .int .i64 t219] 28 (0, 0)) (by (with_reducible repeat (first | refine blk_drewN ?_ _ | refine blk_drew ?_ | refine blk_alloc ?_ _)); refine blk_far ?_ NB221_236.out _; (with_reducible repeat (first | refine blk_drewN ?_ _ | refine blk_drew ?_ | refine blk_alloc ?_ _)); refine blk_far ?_ NB221_236.out _; (with_reducible repeat (first | refine blk_drewN ?_ _ | refine blk_drew ?_ | refine blk_alloc ?_ _)); exact BK221.out) hb); have n11_ := Aside0.mk (blk_below (g := gb236) (o := .cells #[.slice Ao37 t231.length co37, .int .i64 t234] 28 (0, 0)) (by (with_reducible repeat (first | refine blk_drewN ?_ _ | refine blk_drew ?_ | refine blk_alloc ?_ _)); refine blk_put (cs := #[.slice Ao37 t231.length co37, .int .i64 0]) ?_ 1 _ rfl; (with_reducible repeat (first | refine blk_drewN ?_ _ | refine blk_drew ?_ | refine blk_alloc ?_ _)); refine blk_put (cs := #[.slice none 0 0, .int .i64 0]) ?_ 0 _ rfl; (with_reducible repeat (first | refine blk_drewN ?_ _ | refine blk_drew ?_ | refine blk_alloc ?_ _)); exact BK236.out) hb); have n12_ := Aside0.mk (below_step (by repeat (first | (with_reducible first | exact HB.out | apply below_alloc | apply pw_below_drewN | apply below_drew1 | refine below_set ?_ GE211.out | refine below_set ?_ GE221.out | refine below_set ?_ GE236.out) | exact HB.out)) hb); clear HO204; clear HO208; clear HO214; clear HO218; clear HO224; clear HO227; clear HO230; clear HO233; clear BK211; clear BK221; clear BK236; clear HB; have HO204 := n0_; have HO208 := n1_; have HO214 := n2_; have HO218 := n3_; have HO224 := n4_; have HO227 := n5_; have HO230 := n6_; have HO233 := n7_; have HO239 := n8_; have BK211 := n9_; have BK221 := n10_; have BK236 := n11_; have HB := n12_; clear n0_ n1_ n2_ n3_ n4_ n5_ n6_ n7_ n8_ n9_ n10_ n11_ n12_; clear hb ho44; obtain ⟨Ao45, co45, eo45⟩ := Kd.R_slice HO230.out; subst eo45; obtain ⟨Ao46, co46, eo46⟩ := Kd.R_slice HO239.out; subst eo46) | (go_at_call 15; (with_reducible refine (samphireref02_Same.calls k _ _ t228 _ _ y237 true _ ?side1 ?side2 ?side3 ?side4 A9.out).mono ?_); (case side1 => repeat (first | exact (Kd.R_reads' HO230.out).2.2 | (with_reducible refine Kd.C_alloc ?_ _) | (with_reducible refine Kd.C_drewN ?_ _) | (with_reducible refine Kd.C_drew ?_))); (case side2 => exact (Kd.R_reads' HO230.out).2.1); (case side3 => repeat (first | exact (Kd.R_reads' HO239.out).2.2 | (with_reducible refine Kd.C_alloc ?_ _) | (with_reducible refine Kd.C_drewN ?_ _) | (with_reducible refine Kd.C_drew ?_))); (case side4 => exact (Kd.R_reads' HO239.out).2.1); rintro e w' ⟨rfl, ⟨nd, rfl⟩⟩; have hcz47_0 : w43.cell? ⟨gb236, 0, none⟩ = some (.slice Ao37 t231.length co37) := (blk_cell BK236.out 0).trans rfl; have hcz47_1 : w43.cell? ⟨gb236, 1, none⟩ = some (.int .i64 t234) := (blk_cell BK236.out 1).trans rfl; have hfz47_0 := blk_frozen BK236.out 0; have hfz47_1 := blk_frozen BK236.out 1; have hcz48_0 : w43.cell? ⟨gb211, 0, none⟩ = some (.slice Ao19 t206.length co19) := (blk_cell BK211.out 0).trans rfl; have hcz48_1 : w43.cell? ⟨gb211, 1, none⟩ = some (.int .i64 t209) := (blk_cell BK211.out 1).trans rfl; have hfz48_0 := blk_frozen BK211.out 0; have hfz48_1 := blk_frozen BK211.out 1) | (go_at_call 16; (with_reducible refine (draw_Left.calls _ _ t206 t209 t241 _ ?side1 ?side2 A13.out).mono ?_); (case side1 => repeat (first | exact (Kd.V_reads' HO208.out).2.2 | (with_reducible refine Kd.C_alloc ?_ _) | (with_reducible refine Kd.C_drewN ?_ _) | (with_reducible refine Kd.C_drew ?_))); (case side2 => exact (Kd.V_reads' HO208.out).2.1); rintro e w49 ⟨rfl, hb⟩; have n0_ := Aside0.mk (Kd.R_below (by (with_reducible repeat (first | apply Kd.R_alloc | apply Kd.R_drewN | apply Kd.R_drew)); exact HO204.out) hb); have n1_ := Aside0.mk (Kd.V_below (by (with_reducible repeat (first | apply Kd.V_alloc | apply Kd.V_drewN | apply Kd.V_drew)); exact HO208.out) hb); have n2_ := Aside0.mk (Kd.R_below (by (with_reducible repeat (first | apply Kd.R_alloc | apply Kd.R_drewN | apply Kd.R_drew)); exact HO214.out) hb); have n3_ := Aside0.mk (Kd.V_below (by (with_reducible repeat (first | apply Kd.V_alloc | apply Kd.V_drewN | apply Kd.V_drew)); exact HO218.out) hb); have n4_ := Aside0.mk (Kd.R_below (by (with_reducible repeat (first | apply Kd.R_alloc | apply Kd.R_drewN | apply Kd.R_drew)); exact HO224.out) hb); have n5_ := Aside0.mk (Kd.R_below (by (with_reducible repeat (first | apply Kd.R_alloc | apply Kd.R_drewN | apply Kd.R_drew)); exact HO227.out) hb); have n6_ := Aside0.mk (Kd.R_below (by (with_reducible repeat (first | apply Kd.R_alloc | apply Kd.R_drewN | apply Kd.R_drew)); exact HO230.out) hb); have n7_ := Aside0.mk (Kd.V_below (by (with_reducible repeat (first | apply Kd.V_alloc | apply Kd.V_drewN | apply Kd.V_drew)); exact HO233.out) hb); have n8_ := Aside0.mk (Kd.R_below (by (with_reducible repeat (first | apply Kd.R_alloc | apply Kd.R_drewN | apply Kd.R_drew)); exact HO239.out) hb); have n9_ := Aside0.mk (blk_below (g := gb211) (o := .cells #[.slice Ao19 t206.length co19, .int .i64 t209] 28 (0, 0)) (by (with_reducible repeat (first | refine blk_drewN ?_ _ | refine blk_drew ?_ | refine blk_alloc ?_ _)); exact BK211.out) hb); have n10_ := Aside0.mk (blk_below (g := gb221) (o := .cells #[.slice Ao26 t216.length co26, .int .i64 t219] 28 (0, 0)) (by (with_reducible repeat (first | refine blk_drewN ?_ _ | refine blk_drew ?_ | refine blk_alloc ?_ _)); exact BK221.out) hb); have n11_ := Aside0.mk (blk_below (g := gb236) (o := .cells #[.slice Ao37 t231.length co37, .int .i64 t234] 28 (0, 0)) (by (with_reducible repeat (first | refine blk_drewN ?_ _ | refine blk_drew ?_ | refine blk_alloc ?_ _)); exact BK236.out) hb); have n12_ := Aside0.mk (below_step (by repeat (first | (with_reducible first | exact HB.out | apply below_alloc | apply pw_below_drewN | apply below_drew1 | refine below_set ?_ GE211.out | refine below_set ?_ GE221.out | refine below_set ?_ GE236.out) | exact HB.out)) hb); clear HO204; clear HO208; clear HO214; clear HO218; clear HO224; clear HO227; clear HO230; clear HO233; clear HO239; clear BK211; clear BK221; clear BK236; clear HB; have HO204 := n0_; have HO208 := n1_; have HO214 := n2_; have HO218 := n3_; have HO224 := n4_; have HO227 := n5_; have HO230 := n6_; have HO233 := n7_; have HO239 := n8_; have BK211 := n9_; have BK221 := n10_; have BK236 := n11_; have HB := n12_; clear n0_ n1_ n2_ n3_ n4_ n5_ n6_ n7_ n8_ n9_ n10_ n11_ n12_; (try clear hb); (try clear hb2); (try clear hk); (try clear hi)))
         go_ret
         exact ⟨by first | rfl | (simp [errW_none, errW_some] <;> rfl) | (simp [*, errW_none, errW_some] <;> rfl), by repeat (first | (with_reducible first | exact HB.out | apply below_alloc | apply pw_below_drewN | apply below_drew1 | refine below_set ?_ GE211.out | refine below_set ?_ GE221.out | refine below_set ?_ GE236.out) | exact HB.out)⟩
        ·
         rw [if_neg c12] at H
         exact absurd H (by simp)
       ·
        rw [if_neg c11] at H
        exact absurd H (by simp)
      ·
       replace c10 := Bool.eq_false_iff.mpr c10
       subst c10
       have H1 : (none) = some r := by rw [if_neg (show ¬ (false = true) by decide)] at H; exact H
       clear H
       have H := H1
       clear H1
       exact absurd H (by simp)
     ·
      rw [if_neg c8] at H
      exact absurd H (by simp)
    ·
     rw [if_neg c7] at H
     exact absurd H (by simp)
   ·
    rw [if_neg c6] at H
    exact absurd H (by simp)
  ·
   rw [if_neg c5] at H
   exact absurd H (by simp)
 ·
  rw [if_neg c4] at H
  exact absurd H (by simp)

/-! ### samphireref02_Right: function 21 -/
def samphireref02_Right.f (l0 : List Int) : Option (Bool) := if (l0.length : Int) > 64 then (some false) else (if (l0.length : Int) = 0 then (some true) else (if 0 ≤ (wrap64 ((l0.length : Int) - 1)) then (if (wrap64 ((l0.length : Int) - 1)) < (l0.length : Int) then (some (decide ((rd l0 (wrap64 ((l0.length : Int) - 1))) > 0))) else (none)) else (none)))
set_option maxHeartbeats 8000000 in
set_option maxRecDepth 100000 in
theorem samphireref02_Right.calls (A0 : Option Addr) (c0 : Nat) (l0 : List Int) (r : Bool) (w : World) (hr0 : Kd.C (Kd.int .u32) w A0 l0.length l0) (hc0 : l0.length ≤ c0) (h : samphireref02_Right.f l0 = some r) :
  Calls Try.prog 21 #[.slice A0 l0.length c0] w fun e w' => e = .returned (.bool r) ∧ Drawn0 w w' := by
 have HR0 := Aside0.mk hr0
 have HC0 := Aside0.mk hc0
 clear hr0 hc0
 have H : (if (l0.length : Int) > 64 then (some false) else (if (l0.length : Int) = 0 then (some true) else (if 0 ≤ (wrap64 ((l0.length : Int) - 1)) then (if (wrap64 ((l0.length : Int) - 1)) < (l0.length : Int) then (some (decide ((rd l0 (wrap64 ((l0.length : Int) - 1))) > 0))) else (none)) else (none)))) = some r := h
 clear h
 by_cases c2 : (l0.length : Int) > 64
 ·
  rw [if_pos c2] at H
  have c2b0 : decide (64 < (l0.length : Int)) = true := decide_eq_true c2
  have c2b1 : decide (64 < l0.length) = true := decide_eq_true (by omega)
  clear c2
  obtain rfl := Option.some.inj H
  go_enter Try.func21, Try.ntmps21
  go_wp2
  go_ret
  exact ⟨by first | rfl | (simp; done) | (simp [*]; done), by repeat (first | exact Drawn0.refl _ | apply Drawn0.step)⟩
 ·
  rw [if_neg c2] at H
  have c2b0 : decide (64 < (l0.length : Int)) = false := decide_eq_false c2
  have c2b1 : decide (64 < l0.length) = false := decide_eq_false (by omega)
  clear c2
  by_cases c3 : (l0.length : Int) = 0
  ·
   rw [if_pos c3] at H
   have c3b0 : ((l0.length : Int) == 0) = true := beq_iff_eq.mpr c3
   have c3b1 : ((l0.length : Int) != 0) = false := bne_eq_false_iff_eq.mpr c3
   clear c3
   obtain rfl := Option.some.inj H
   go_enter Try.func21, Try.ntmps21
   go_wp2
   go_ret
   exact ⟨by first | rfl | (simp; done) | (simp [*]; done), by repeat (first | exact Drawn0.refl _ | apply Drawn0.step)⟩
  ·
   rw [if_neg c3] at H
   have c3b0 : ((l0.length : Int) == 0) = false := beq_eq_false_iff_ne.mpr c3
   have c3b1 : ((l0.length : Int) != 0) = true := bne_iff_ne.mpr c3
   have c3b2 : ¬ (l0 = []) := fun h_ => c3 (by rw [h_]; rfl)
   obtain ⟨ji4, hji4⟩ : ∃ j_ : Int, (wrap64 ((l0.length : Int) - 1)) = j_ := ⟨_, rfl⟩
   replace H : (if 0 ≤ (ji4) then (if (ji4) < (l0.length : Int) then (some (decide ((rd l0 (ji4)) > 0))) else (none)) else (none)) = some r := by first | (rw [hji4] at H; exact H) | (simp only [hji4] at H ⊢; exact H)
   have hji4w : (IntKind.i64.wrap ((l0.length : Int) - 1)) = ji4 := (i64_w _).trans hji4
   by_cases c5 : 0 ≤ (ji4)
   ·
    rw [if_pos c5] at H
    have c5b0 : decide (0 ≤ (ji4)) = true := decide_eq_true c5
    clear c5
    by_cases c6 : (ji4) < (l0.length : Int)
    ·
     rw [if_pos c6] at H
     have c6b0 : decide ((ji4) < (l0.length : Int)) = true := decide_eq_true c6
     clear c6
     obtain rfl := Option.some.inj H
     have p242 : 0 ≤ ((ji4) : Int) := of_decide_eq_true (by first | (with_reducible assumption) | assumption)
     have q242 : (ji4) < (l0.length : Int) := of_decide_eq_true (by first | (with_reducible assumption) | assumption)
     obtain ⟨ad242, e242, hx242_0⟩ := Kd.at_int HR0.out (ji4) p242 q242
     cases e242
     replace p242 := eq_true p242
     replace q242 := eq_true q242
     go_enter Try.func21, Try.ntmps21
     go_wp2
     go_ret
     exact ⟨by first | rfl | (simp; done) | (simp only [← hji4] <;> (first | rfl | simp)) | (simp [*]; done), by repeat (first | exact Drawn0.refl _ | apply Drawn0.step)⟩
    ·
     rw [if_neg c6] at H
     exact absurd H (by simp)
   ·
    rw [if_neg c5] at H
    exact absurd H (by simp)

/-! ### samphireref02_Bits: function 32 -/
mutual
def samphireref02_Bits.l0 : Nat → List Int → Int → Int → Option (Int)
 | 0, _, _, _ => none
 | k + 1, x0, x3, x4 => if x4 < (x0.length : Int) then (samphireref02_Bits.l1 k x0 x3 x4 0) else (some x3)
def samphireref02_Bits.l1 : Nat → List Int → Int → Int → Int → Option (Int)
 | 0, _, _, _, _ => none
 | k + 1, x0, x3, x4, x5 => if x5 < 32 then (if 0 ≤ x4 then (if x4 < (x0.length : Int) then (if 0 ≤ (IntKind.u64.wrap (x5)) then (if (Int.tmod (shr .u32 (rd x0 x4) (IntKind.u64.wrap (x5))) 2) = 1 then (samphireref02_Bits.l1 k x0 (wrap64 ((wrap64 ((wrap64 (32 * x4)) + x5)) + 1)) x4 (wrap64 (x5 + 1))) else (samphireref02_Bits.l1 k x0 x3 x4 (wrap64 (x5 + 1)))) else (none)) else (none)) else (none)) else (samphireref02_Bits.l0 k x0 x3 (wrap64 (x4 + 1)))
end
def samphireref02_Bits.f (k : Nat) (l0 : List Int) : Option (Int) := samphireref02_Bits.l0 k l0 0 0
theorem samphireref02_Bits.mono_l : ∀ k, (∀ y0 y1 y2, LeO (samphireref02_Bits.l0 k y0 y1 y2) (samphireref02_Bits.l0 (k + 1) y0 y1 y2)) ∧ (∀ y0 y1 y2 y3, LeO (samphireref02_Bits.l1 k y0 y1 y2 y3) (samphireref02_Bits.l1 (k + 1) y0 y1 y2 y3))
 | 0 => ⟨fun _ _ _ r h => by simp [samphireref02_Bits.l0] at h, fun _ _ _ _ r h => by simp [samphireref02_Bits.l1] at h⟩
 | k + 1 => by
  obtain ⟨ih0, ih1⟩ := samphireref02_Bits.mono_l k
  refine ⟨?_, ?_⟩
  ·
   intro y0 y1 y2
   unfold samphireref02_Bits.l0
   repeat' first
   | (with_reducible exact ih0 _ _ _)
   | (with_reducible exact ih1 _ _ _ _)
   | (with_reducible exact LeO.refl _)
   | (with_reducible exact LeO.none _)
   | (with_reducible refine LeO.ite ?_ ?_)
   | (with_reducible refine LeO.bind ?_ (fun _ => ?_))
   | exact ih0 _ _ _
   | exact ih1 _ _ _ _
   | exact LeO.none _
   | refine LeO.ite ?_ ?_
   | refine LeO.bind ?_ (fun _ => ?_)
  ·
   intro y0 y1 y2 y3
   unfold samphireref02_Bits.l1
   repeat' first
   | (with_reducible exact ih0 _ _ _)
   | (with_reducible exact ih1 _ _ _ _)
   | (with_reducible exact LeO.refl _)
   | (with_reducible exact LeO.none _)
   | (with_reducible refine LeO.ite ?_ ?_)
   | (with_reducible refine LeO.bind ?_ (fun _ => ?_))
   | exact ih0 _ _ _
   | exact ih1 _ _ _ _
   | exact LeO.none _
   | refine LeO.ite ?_ ?_
   | refine LeO.bind ?_ (fun _ => ?_)
theorem samphireref02_Bits.mono : ∀ a0 k, LeO (samphireref02_Bits.f k a0) (samphireref02_Bits.f (k + 1) a0) := by
 intro a0 k
 obtain ⟨ih0, ih1⟩ := samphireref02_Bits.mono_l k
 unfold samphireref02_Bits.f
 repeat' first
   | (with_reducible exact ih0 _ _ _)
   | (with_reducible exact ih1 _ _ _ _)
   | (with_reducible exact LeO.refl _)
   | (with_reducible exact LeO.none _)
   | (with_reducible refine LeO.ite ?_ ?_)
   | (with_reducible refine LeO.bind ?_ (fun _ => ?_))
   | exact ih0 _ _ _
   | exact ih1 _ _ _ _
   | exact LeO.none _
   | refine LeO.ite ?_ ?_
   | refine LeO.bind ?_ (fun _ => ?_)
set_option maxHeartbeats 8000000 in
set_option maxRecDepth 100000 in
theorem samphireref02_Bits.calls (k : Nat) (A0 : Option Addr) (c0 : Nat) (l0 : List Int) (r : Int) (w : World) (hr0 : Kd.C (Kd.int .u32) w A0 l0.length l0) (hc0 : l0.length ≤ c0) (h : samphireref02_Bits.f k l0 = some r) :
  Calls Try.prog 32 #[.slice A0 l0.length c0] w fun e w' => e = .returned (.int .i64 r) ∧ Drawn0 w w' := by
 have HR0 := Aside0.mk hr0
 have HC0 := Aside0.mk hc0
 clear hr0 hc0
 have H : (samphireref02_Bits.l0 k l0 0 0) = some r := h
 clear h
 have H' := Aside0.mk H
 clear H
 go_enter Try.func32, Try.ntmps32
 go_wp2
 go_loopg [3, 4] k (fun kq v3 v4 w' => ∃ (x3_1 : Int) (x4_1 : Int), v3 = .int .i64 x3_1 ∧ v4 = .int .i64 x4_1 ∧ Aside0 (samphireref02_Bits.l0 kq l0 x3_1 x4_1 = some r) ∧ Aside0 (kq ≤ k) ∧ Drawn0 w w')
 case atStart => exact ⟨(0), (0), (by first | rfl | (simp; done) | (simp [*]; done)), (by first | rfl | (simp; done) | (simp [*]; done)), H', ⟨Nat.le_refl _⟩, by repeat (first | exact Drawn0.refl _ | apply Drawn0.step)⟩
 case round =>
  clear H'
  obtain ⟨x3_1, x4_1, rfl, rfl, HA, HK1, ⟨m1, rfl⟩⟩ := hrel
  cases gk with
  | zero => exact absurd HA.out (by simp [samphireref02_Bits.l0])
  | succ k1 =>
   have H := HA.out
   clear HA
   simp only [samphireref02_Bits.l0] at H
   by_cases c2 : x4_1 < (l0.length : Int)
   ·
    rw [if_pos c2] at H
    have c2b0 : decide (x4_1 < (l0.length : Int)) = true := decide_eq_true c2
    clear c2
    have H' := Aside0.mk H
    clear H
    go_wp2
    go_loopg [3, 5] k1 (fun kq v3 v5 w' => ∃ (x3_2 : Int) (x5_2 : Int), v3 = .int .i64 x3_2 ∧ v5 = .int .i64 x5_2 ∧ Aside0 (samphireref02_Bits.l1 kq l0 x3_2 x4_1 x5_2 = some r) ∧ Aside0 (kq ≤ k1) ∧ Drawn0 w w')
    case atStart => exact ⟨(x3_1), (0), (by first | rfl | (simp; done) | (simp [*]; done)), (by first | rfl | (simp; done) | (simp [*]; done)), H', ⟨Nat.le_refl _⟩, by repeat (first | exact Drawn0.refl _ | apply Drawn0.step)⟩
    case round =>
     clear H'
     try clear c2
     try clear c2b0
     try clear p2
     obtain ⟨x3_2, x5_2, rfl, rfl, HA, HK2, ⟨m2, rfl⟩⟩ := hrel
     cases gk with
     | zero => exact absurd HA.out (by simp [samphireref02_Bits.l1])
     | succ k2 =>
      have H := HA.out
      clear HA
      simp only [samphireref02_Bits.l1] at H
      by_cases c3 : x5_2 < 32
      ·
       rw [if_pos c3] at H
       have c3b0 : decide (x5_2 < 32) = true := decide_eq_true c3
       clear c3
       by_cases c4 : 0 ≤ x4_1
       ·
        rw [if_pos c4] at H
        have c4b0 : decide (0 ≤ x4_1) = true := decide_eq_true c4
        clear c4
        by_cases c5 : x4_1 < (l0.length : Int)
        ·
         rw [if_pos c5] at H
         have c5b0 : decide (x4_1 < (l0.length : Int)) = true := decide_eq_true c5
         clear c5
         obtain ⟨ji6, hji6⟩ : ∃ j_ : Int, (IntKind.u64.wrap (x5_2)) = j_ := ⟨_, rfl⟩
         replace H : (if 0 ≤ (ji6) then (if (Int.tmod (shr .u32 (rd l0 x4_1) (ji6)) 2) = 1 then (samphireref02_Bits.l1 k2 l0 (wrap64 ((wrap64 ((wrap64 (32 * x4_1)) + x5_2)) + 1)) x4_1 (wrap64 (x5_2 + 1))) else (samphireref02_Bits.l1 k2 l0 x3_2 x4_1 (wrap64 (x5_2 + 1)))) else (none)) = some r := by first | (rw [hji6] at H; exact H) | (simp only [hji6] at H ⊢; exact H)
         by_cases c7 : 0 ≤ (ji6)
         ·
          rw [if_pos c7] at H
          have c7b0 := eq_true c7
          have c7b1 : decide (0 ≤ (ji6)) = true := decide_eq_true c7
          clear c7
          obtain ⟨ji8, hji8⟩ : ∃ j_ : Int, (shr .u32 (rd l0 x4_1) (ji6)) = j_ := ⟨_, rfl⟩
          replace H : (if (Int.tmod (ji8) 2) = 1 then (samphireref02_Bits.l1 k2 l0 (wrap64 ((wrap64 ((wrap64 (32 * x4_1)) + x5_2)) + 1)) x4_1 (wrap64 (x5_2 + 1))) else (samphireref02_Bits.l1 k2 l0 x3_2 x4_1 (wrap64 (x5_2 + 1)))) = some r := by first | (rw [hji8] at H; exact H) | (simp only [hji8] at H ⊢; exact H)
          have hji8_ : ((rd l0 x4_1) / 2 ^ min (ji6).toNat 32) = ji8 := hji8
          have hji8z : (ji6) ≤ 32 → ((rd l0 x4_1) / 2 ^ (ji6).toNat) = ji8 := shr_small hji8
          by_cases c9 : (Int.tmod (ji8) 2) = 1
          ·
           rw [if_pos c9] at H
           have c9b0 : ((Int.tmod (ji8) 2) == 1) = true := beq_iff_eq.mpr c9
           have c9b1 : ((Int.tmod (ji8) 2) != 1) = false := bne_eq_false_iff_eq.mpr c9
           clear c9
           have H' := Aside0.mk H
           clear H
           have p243 : 0 ≤ (x4_1 : Int) := of_decide_eq_true (by first | (with_reducible assumption) | assumption)
           have q243 : x4_1 < (l0.length : Int) := of_decide_eq_true (by first | (with_reducible assumption) | assumption)
           obtain ⟨ad243, e243, hx243_0⟩ := Kd.at_int HR0.out x4_1 p243 q243
           cases e243
           replace p243 := eq_true p243
           replace q243 := eq_true q243
           go_wp2
           go_roundg k2
           case measure => have := HK1.out; have := HK2.out; omega
           case rel => exact ⟨(wrap64 ((wrap64 ((wrap64 (32 * x4_1)) + x5_2)) + 1)), (wrap64 (x5_2 + 1)), (by first | rfl | (simp; done) | (simp [*]; done)), (by first | rfl | (simp; done) | (simp [*]; done)), H', ⟨by have := HK1.out; have := HK2.out; omega⟩, by repeat (first | exact Drawn0.refl _ | apply Drawn0.step)⟩
          ·
           rw [if_neg c9] at H
           have c9b0 : ((Int.tmod (ji8) 2) == 1) = false := beq_eq_false_iff_ne.mpr c9
           have c9b1 : ((Int.tmod (ji8) 2) != 1) = true := bne_iff_ne.mpr c9
           have H' := Aside0.mk H
           clear H
           have p243 : 0 ≤ (x4_1 : Int) := of_decide_eq_true (by first | (with_reducible assumption) | assumption)
           have q243 : x4_1 < (l0.length : Int) := of_decide_eq_true (by first | (with_reducible assumption) | assumption)
           obtain ⟨ad243, e243, hx243_0⟩ := Kd.at_int HR0.out x4_1 p243 q243
           cases e243
           replace p243 := eq_true p243
           replace q243 := eq_true q243
           go_wp2
           go_roundg k2
           case measure => have := HK1.out; have := HK2.out; omega
           case rel => exact ⟨(x3_2), (wrap64 (x5_2 + 1)), (by first | rfl | (simp; done) | (simp [*]; done)), (by first | rfl | (simp; done) | (simp [*]; done)), H', ⟨by have := HK1.out; have := HK2.out; omega⟩, by repeat (first | exact Drawn0.refl _ | apply Drawn0.step)⟩
         ·
          rw [if_neg c7] at H
          exact absurd H (by simp)
        ·
         rw [if_neg c5] at H
         exact absurd H (by simp)
       ·
        rw [if_neg c4] at H
        exact absurd H (by simp)
      ·
       rw [if_neg c3] at H
       have c3b0 : decide (x5_2 < 32) = false := decide_eq_false c3
       clear c3
       have H' := Aside0.mk H
       clear H
       go_wp2
       go_roundg k2
       case measure => have := HK1.out; have := HK2.out; omega
       case rel => exact ⟨(x3_2), (wrap64 (x4_1 + 1)), (by first | rfl | (simp; done) | (simp [*]; done)), (by first | rfl | (simp; done) | (simp [*]; done)), H', ⟨by have := HK1.out; have := HK2.out; omega⟩, by repeat (first | exact Drawn0.refl _ | apply Drawn0.step)⟩
   ·
    rw [if_neg c2] at H
    have c2b0 : decide (x4_1 < (l0.length : Int)) = false := decide_eq_false c2
    clear c2
    obtain rfl := Option.some.inj H
    go_wp2
    go_ret
    exact ⟨by first | rfl | (simp; done) | (simp [*]; done), by repeat (first | exact Drawn0.refl _ | apply Drawn0.step)⟩

/-! ### samphireref02_Whole: function 23 -/
mutual
def samphireref02_Whole.l0 : Nat → List Int → List Int → Int → Option (List Int)
 | 0, _, _, _ => none
 | k + 1, x0, x3, x4 => if x4 < (x0.length : Int) then (if 0 ≤ x4 then (if (wrap64 (x4 + 1)) < (x0.length : Int) then (if 0 ≤ (wrap64 (x4 + 1)) then (if x3.length < 35184372088832 then (samphireref02_Whole.l0 k x0 (x3 ++ [(IntKind.u64.wrap ((rd x0 x4) + (IntKind.u64.wrap (65536 * (rd x0 (wrap64 (x4 + 1))))))) % 4294967296]) (wrap64 (x4 + 2))) else (none)) else (none)) else (if x3.length < 35184372088832 then (samphireref02_Whole.l0 k x0 (x3 ++ [(rd x0 x4) % 4294967296]) (wrap64 (x4 + 2))) else (none))) else (none)) else (samphireref02_Whole.l1 k x3)
def samphireref02_Whole.l1 : Nat → List Int → Option (List Int)
 | 0, _ => none
 | k + 1, x3 => if (x3.length : Int) > 0 then (if 0 ≤ (wrap64 ((x3.length : Int) - 1)) then (if (wrap64 ((x3.length : Int) - 1)) < (x3.length : Int) then (if (rd x3 (wrap64 ((x3.length : Int) - 1))) = 0 then (if (wrap64 ((x3.length : Int) - 1)) ≤ (x3.length : Int) then (samphireref02_Whole.l1 k (x3.take ((wrap64 ((x3.length : Int) - 1)) : Int).toNat)) else (none)) else (some x3)) else (none)) else (none)) else (some x3)
end
def samphireref02_Whole.f (k : Nat) (l0 : List Int) : Option (List Int) := samphireref02_Whole.l0 k l0 ([] : List Int) 0
theorem samphireref02_Whole.mono_l : ∀ k, (∀ y0 y1 y2, LeO (samphireref02_Whole.l0 k y0 y1 y2) (samphireref02_Whole.l0 (k + 1) y0 y1 y2)) ∧ (∀ y0, LeO (samphireref02_Whole.l1 k y0) (samphireref02_Whole.l1 (k + 1) y0))
 | 0 => ⟨fun _ _ _ r h => by simp [samphireref02_Whole.l0] at h, fun _ r h => by simp [samphireref02_Whole.l1] at h⟩
 | k + 1 => by
  obtain ⟨ih0, ih1⟩ := samphireref02_Whole.mono_l k
  refine ⟨?_, ?_⟩
  ·
   intro y0 y1 y2
   unfold samphireref02_Whole.l0
   repeat' first
   | (with_reducible exact ih0 _ _ _)
   | (with_reducible exact ih1 _)
   | (with_reducible exact LeO.refl _)
   | (with_reducible exact LeO.none _)
   | (with_reducible refine LeO.ite ?_ ?_)
   | (with_reducible refine LeO.bind ?_ (fun _ => ?_))
   | exact ih0 _ _ _
   | exact ih1 _
   | exact LeO.none _
   | refine LeO.ite ?_ ?_
   | refine LeO.bind ?_ (fun _ => ?_)
  ·
   intro y0
   unfold samphireref02_Whole.l1
   repeat' first
   | (with_reducible exact ih0 _ _ _)
   | (with_reducible exact ih1 _)
   | (with_reducible exact LeO.refl _)
   | (with_reducible exact LeO.none _)
   | (with_reducible refine LeO.ite ?_ ?_)
   | (with_reducible refine LeO.bind ?_ (fun _ => ?_))
   | exact ih0 _ _ _
   | exact ih1 _
   | exact LeO.none _
   | refine LeO.ite ?_ ?_
   | refine LeO.bind ?_ (fun _ => ?_)
theorem samphireref02_Whole.mono : ∀ a0 k, LeO (samphireref02_Whole.f k a0) (samphireref02_Whole.f (k + 1) a0) := by
 intro a0 k
 obtain ⟨ih0, ih1⟩ := samphireref02_Whole.mono_l k
 unfold samphireref02_Whole.f
 repeat' first
   | (with_reducible exact ih0 _ _ _)
   | (with_reducible exact ih1 _)
   | (with_reducible exact LeO.refl _)
   | (with_reducible exact LeO.none _)
   | (with_reducible refine LeO.ite ?_ ?_)
   | (with_reducible refine LeO.bind ?_ (fun _ => ?_))
   | exact ih0 _ _ _
   | exact ih1 _
   | exact LeO.none _
   | refine LeO.ite ?_ ?_
   | refine LeO.bind ?_ (fun _ => ?_)
set_option maxHeartbeats 8000000 in
set_option maxRecDepth 100000 in
theorem samphireref02_Whole.calls (k : Nat) (A0 : Option Addr) (c0 : Nat) (l0 : List Int) (r : List Int) (w : World) (hr0 : Kd.C (Kd.int .u64) w A0 l0.length l0) (hc0 : l0.length ≤ c0) (h : samphireref02_Whole.f k l0 = some r) :
  Calls Try.prog 23 #[.slice A0 l0.length c0] w fun e w' => ∃ v0_ : Value, e = .returned (v0_) ∧ Kd.R (Kd.int .u32) 48 w' w.heap.size (fun _ => True) v0_ r ∧ Below w.heap.size w w' := by
 have HR0 := Aside0.mk hr0
 have HC0 := Aside0.mk hc0
 clear hr0 hc0
 have HB := Aside0.mk (Below.refl w.heap.size w)
 have H : (samphireref02_Whole.l0 k l0 ([] : List Int) 0) = some r := h
 clear h
 have H' := Aside0.mk H
 clear H
 go_enter Try.func23, Try.ntmps23
 go_wp2
 go_loopg [3, 4] k (fun kq v3 v4 w' => ∃ (x3_1 : List Int) (x4_1 : Int), v4 = .int .i64 x4_1 ∧ Aside0 (samphireref02_Whole.l0 kq l0 x3_1 x4_1 = some r) ∧ Aside0 (kq ≤ k) ∧ Aside0 (Kd.R (Kd.int .u32) 48 w' w.heap.size (fun _ => True) v3 x3_1) ∧ Aside0 (Below w.heap.size w w'))
 case atStart => exact ⟨(([] : List Int)), (0), (by first | rfl | (simp; done) | (simp [*]; done)), H', ⟨Nat.le_refl _⟩, ⟨by first | exact Kd.R_nil _ _ _ _ _ | exact Kd.N_nil _ _ _ _ _ | exact Kd.V_nil _ _ _ _ _ | exact Kd.Q_nil _ _ _ _ _ | exact Kd.S_nil _ _ _ _ _⟩, ⟨by repeat (first | (with_reducible first | exact HB.out | apply below_alloc | apply pw_below_drewN | apply below_drew1) | exact HB.out)⟩⟩
 case round =>
  clear H'
  obtain ⟨x3_1, x4_1, rfl, HA, HK1, HO_3, HB⟩ := hrel
  cases gk with
  | zero => exact absurd HA.out (by simp [samphireref02_Whole.l0])
  | succ k1 =>
   have H := HA.out
   clear HA
   simp only [samphireref02_Whole.l0] at H
   by_cases c2 : x4_1 < (l0.length : Int)
   ·
    rw [if_pos c2] at H
    have c2b0 : decide (x4_1 < (l0.length : Int)) = true := decide_eq_true c2
    clear c2
    by_cases c3 : 0 ≤ x4_1
    ·
     rw [if_pos c3] at H
     have c3b0 : decide (0 ≤ x4_1) = true := decide_eq_true c3
     clear c3
     by_cases c4 : (wrap64 (x4_1 + 1)) < (l0.length : Int)
     ·
      rw [if_pos c4] at H
      have c4b0 : decide ((wrap64 (x4_1 + 1)) < (l0.length : Int)) = true := decide_eq_true c4
      clear c4
      obtain ⟨ji5, hji5⟩ : ∃ j_ : Int, (wrap64 (x4_1 + 1)) = j_ := ⟨_, rfl⟩
      replace H : (if 0 ≤ (ji5) then (if x3_1.length < 35184372088832 then (samphireref02_Whole.l0 k1 l0 (x3_1 ++ [(IntKind.u64.wrap ((rd l0 x4_1) + (IntKind.u64.wrap (65536 * (rd l0 (ji5)))))) % 4294967296]) (wrap64 (x4_1 + 2))) else (none)) else (none)) = some r := by first | (rw [hji5] at H; exact H) | (simp only [hji5] at H ⊢; exact H)
      (try rw [hji5] at c4b0)
      have hji5w : (IntKind.i64.wrap (x4_1 + 1)) = ji5 := (i64_w _).trans hji5
      by_cases c6 : 0 ≤ (ji5)
      ·
       rw [if_pos c6] at H
       have c6b0 : decide (0 ≤ (ji5)) = true := decide_eq_true c6
       clear c6
       by_cases c7 : x3_1.length < 35184372088832
       ·
        rw [if_pos c7] at H
        have LMc7 := Aside0.mk c7
        clear c7
        obtain ⟨y246, hy246⟩ : ∃ y_ : List Int, y_ = (x3_1 ++ [(IntKind.u64.wrap ((rd l0 x4_1) + (IntKind.u64.wrap (65536 * (rd l0 (ji5)))))) % 4294967296]) := ⟨_, rfl⟩
        replace H : (samphireref02_Whole.l0 k1 l0 y246 (wrap64 (x4_1 + 2))) = some r := by first | (rw [hy246]; with_reducible exact H) | (have H2_ := (Option.bind_some _ _).symm.trans H; rw [hy246]; with_reducible exact H2_) | (have H2_ := (Option.bind_some _ _).symm.trans H; with_reducible exact H2_) | with_reducible exact H | (rw [hy246]; exact H) | exact H
        have Ny246 := Aside0.mk hy246
        clear hy246
        have H' := Aside0.mk H
        clear H
        have p244 : 0 ≤ (x4_1 : Int) := of_decide_eq_true (by first | (with_reducible assumption) | assumption)
        have q244 : x4_1 < (l0.length : Int) := of_decide_eq_true (by first | (with_reducible assumption) | assumption)
        obtain ⟨ad244, e244, hx244_0⟩ := Kd.at_int HR0.out x4_1 p244 q244
        cases e244
        replace hx244_0 := (HB.out.cell (World.block_lt_of_cell? w _ hx244_0)).trans hx244_0
        replace p244 := eq_true p244
        replace q244 := eq_true q244
        have p245 : 0 ≤ ((ji5) : Int) := of_decide_eq_true (by first | (with_reducible assumption) | assumption)
        have q245 : (ji5) < (l0.length : Int) := of_decide_eq_true (by first | (with_reducible assumption) | assumption)
        obtain ⟨ad245, e245, hx245_0⟩ := Kd.at_int HR0.out (ji5) p245 q245
        obtain rfl : ad244 = ad245 := (by injection e245)
        replace hx245_0 := (HB.out.cell (World.block_lt_of_cell? w _ hx245_0)).trans hx245_0
        replace p245 := eq_true p245
        replace q245 := eq_true q245
        go_wp2_with (first | ((with_reducible refine gate_builtin (b := .append) (xs := #[.tmp 29, .tmp 32]) rfl ?_); (try (refine gate_guard (by rfl) ?_; dsimp only)); at_builtin; refine Kd.R_append (Kd.int .u32) (w0 := w) w.heap.size rfl (.tmp 29) (.tmp 32) 25 48 (.int .u32 0) 4 rfl Try.underlying25 info48 rfl (by decide) (by omega) u3 x3_1 ((IntKind.u64.wrap ((rd l0 x4_1) + (IntKind.u64.wrap (65536 * (rd l0 (ji5)))))) % 4294967296) [.int .u32 ((IntKind.u64.wrap ((rd l0 x4_1) + (IntKind.u64.wrap (65536 * (rd l0 (ji5)))))) % 4294967296)] (fun _ => True) (fun _ => False) rfl rfl ?aP (fun _ hk => hk.elim) ?aF ?aO ?aB ?aS ?aL ?_; (case aP => exact rfl); (case aB => exact (by repeat (first | (with_reducible first | exact HB.out | apply below_alloc | apply pw_below_drewN | apply below_drew1) | exact HB.out))); (case aF => exact (fun _ _ => trivial)); (case aO => exact (by (with_reducible repeat (first | apply Kd.R_alloc | apply Kd.R_drewN | apply Kd.R_drew)); exact HO_3.out)); (case aS => exact (below_size (by repeat (first | (with_reducible first | exact HB.out | apply below_alloc | apply pw_below_drewN | apply below_drew1) | exact HB.out)))); (case aL => have := LMc7.out; omega); intro v247 w8 ho hb hg hat; rw [← Ny246.out] at ho; have n0_ := Aside0.mk (hb); have n1_ := Aside0.mk (ho); clear HB; clear HO_3; have HB := n0_; have HO248 := n1_; clear n0_ n1_; clear ho hb hg hat))
        go_roundg k1
        case measure => have := HK1.out; omega
        case rel => exact ⟨(y246), (wrap64 (x4_1 + 2)), (by first | rfl | (simp; done) | (simp [*]; done)), H', ⟨by have := HK1.out; omega⟩, ⟨by (with_reducible repeat (first | apply Kd.R_alloc | apply Kd.R_drewN | apply Kd.R_drew)); exact HO248.out⟩, ⟨by repeat (first | (with_reducible first | exact HB.out | apply below_alloc | apply pw_below_drewN | apply below_drew1) | exact HB.out)⟩⟩
       ·
        rw [if_neg c7] at H
        exact absurd H (by simp)
      ·
       rw [if_neg c6] at H
       exact absurd H (by simp)
     ·
      rw [if_neg c4] at H
      have c4b0 : decide ((wrap64 (x4_1 + 1)) < (l0.length : Int)) = false := decide_eq_false c4
      clear c4
      by_cases c9 : x3_1.length < 35184372088832
      ·
       rw [if_pos c9] at H
       have LMc9 := Aside0.mk c9
       clear c9
       obtain ⟨y249, hy249⟩ : ∃ y_ : List Int, y_ = (x3_1 ++ [(rd l0 x4_1) % 4294967296]) := ⟨_, rfl⟩
       replace H : (samphireref02_Whole.l0 k1 l0 y249 (wrap64 (x4_1 + 2))) = some r := by first | (rw [hy249]; with_reducible exact H) | (have H2_ := (Option.bind_some _ _).symm.trans H; rw [hy249]; with_reducible exact H2_) | (have H2_ := (Option.bind_some _ _).symm.trans H; with_reducible exact H2_) | with_reducible exact H | (rw [hy249]; exact H) | exact H
       have Ny249 := Aside0.mk hy249
       clear hy249
       have H' := Aside0.mk H
       clear H
       have p244 : 0 ≤ (x4_1 : Int) := of_decide_eq_true (by first | (with_reducible assumption) | assumption)
       have q244 : x4_1 < (l0.length : Int) := of_decide_eq_true (by first | (with_reducible assumption) | assumption)
       obtain ⟨ad244, e244, hx244_0⟩ := Kd.at_int HR0.out x4_1 p244 q244
       cases e244
       replace hx244_0 := (HB.out.cell (World.block_lt_of_cell? w _ hx244_0)).trans hx244_0
       replace p244 := eq_true p244
       replace q244 := eq_true q244
       go_wp2_with (first | ((with_reducible refine gate_builtin (b := .append) (xs := #[.tmp 29, .tmp 32]) rfl ?_); (try (refine gate_guard (by rfl) ?_; dsimp only)); at_builtin; refine Kd.R_append (Kd.int .u32) (w0 := w) w.heap.size rfl (.tmp 29) (.tmp 32) 25 48 (.int .u32 0) 4 rfl Try.underlying25 info48 rfl (by decide) (by omega) u3 x3_1 ((rd l0 x4_1) % 4294967296) [.int .u32 ((rd l0 x4_1) % 4294967296)] (fun _ => True) (fun _ => False) rfl rfl ?aP (fun _ hk => hk.elim) ?aF ?aO ?aB ?aS ?aL ?_; (case aP => exact rfl); (case aB => exact (by repeat (first | (with_reducible first | exact HB.out | apply below_alloc | apply pw_below_drewN | apply below_drew1) | exact HB.out))); (case aF => exact (fun _ _ => trivial)); (case aO => exact (by (with_reducible repeat (first | apply Kd.R_alloc | apply Kd.R_drewN | apply Kd.R_drew)); exact HO_3.out)); (case aS => exact (below_size (by repeat (first | (with_reducible first | exact HB.out | apply below_alloc | apply pw_below_drewN | apply below_drew1) | exact HB.out)))); (case aL => have := LMc9.out; omega); intro v250 w10 ho hb hg hat; rw [← Ny249.out] at ho; have n0_ := Aside0.mk (hb); have n1_ := Aside0.mk (ho); clear HB; clear HO_3; have HB := n0_; have HO251 := n1_; clear n0_ n1_; clear ho hb hg hat))
       go_roundg k1
       case measure => have := HK1.out; omega
       case rel => exact ⟨(y249), (wrap64 (x4_1 + 2)), (by first | rfl | (simp; done) | (simp [*]; done)), H', ⟨by have := HK1.out; omega⟩, ⟨by (with_reducible repeat (first | apply Kd.R_alloc | apply Kd.R_drewN | apply Kd.R_drew)); exact HO251.out⟩, ⟨by repeat (first | (with_reducible first | exact HB.out | apply below_alloc | apply pw_below_drewN | apply below_drew1) | exact HB.out)⟩⟩
      ·
       rw [if_neg c9] at H
       exact absurd H (by simp)
    ·
     rw [if_neg c3] at H
     exact absurd H (by simp)
   ·
    rw [if_neg c2] at H
    have c2b0 : decide (x4_1 < (l0.length : Int)) = false := decide_eq_false c2
    clear c2
    have H' := Aside0.mk H
    clear H
    go_wp2
    go_loopg [3] k1 (fun kq v3 w' => ∃ (x3_2 : List Int), Aside0 (samphireref02_Whole.l1 kq x3_2 = some r) ∧ Aside0 (kq ≤ k1) ∧ Aside0 (Kd.R (Kd.int .u32) 48 w' w.heap.size (fun _ => True) v3 x3_2) ∧ Aside0 (Below w.heap.size w w'))
    case atStart => exact ⟨(x3_1), H', ⟨Nat.le_refl _⟩, ⟨by (with_reducible repeat (first | apply Kd.R_alloc | apply Kd.R_drewN | apply Kd.R_drew)); exact HO_3.out⟩, ⟨by repeat (first | (with_reducible first | exact HB.out | apply below_alloc | apply pw_below_drewN | apply below_drew1) | exact HB.out)⟩⟩
    case round =>
     clear H'
     try clear c2
     try clear c2b0
     try clear p2
     try clear q2
     try clear hx2
     try clear c3
     try clear c3b0
     try clear c4
     try clear c4b0
     try clear c6
     try clear c6b0
     try clear p6
     try clear c7
     try clear c9
     try clear hx244_0
     try clear hx245_0
     try clear p244
     try clear p245
     try clear q244
     try clear q245
     obtain ⟨x3_2, HA, HK2, HO_3, HB⟩ := hrel
     cases gk with
     | zero => exact absurd HA.out (by simp [samphireref02_Whole.l1])
     | succ k2 =>
      have H := HA.out
      clear HA
      simp only [samphireref02_Whole.l1] at H
      by_cases c11 : (x3_2.length : Int) > 0
      ·
       rw [if_pos c11] at H
       have c11b0 : decide (0 < (x3_2.length : Int)) = true := decide_eq_true c11
       have c11b1 : decide (0 < x3_2.length) = true := decide_eq_true (by omega)
       clear c11
       obtain ⟨ji12, hji12⟩ : ∃ j_ : Int, (wrap64 ((x3_2.length : Int) - 1)) = j_ := ⟨_, rfl⟩
       replace H : (if 0 ≤ (ji12) then (if (ji12) < (x3_2.length : Int) then (if (rd x3_2 (ji12)) = 0 then (if (ji12) ≤ (x3_2.length : Int) then (samphireref02_Whole.l1 k2 (x3_2.take ((ji12) : Int).toNat)) else (none)) else (some x3_2)) else (none)) else (none)) = some r := by first | (rw [hji12] at H; exact H) | (simp only [hji12] at H ⊢; exact H)
       have hji12w : (IntKind.i64.wrap ((x3_2.length : Int) - 1)) = ji12 := (i64_w _).trans hji12
       by_cases c13 : 0 ≤ (ji12)
       ·
        rw [if_pos c13] at H
        have c13b0 : decide (0 ≤ (ji12)) = true := decide_eq_true c13
        clear c13
        by_cases c14 : (ji12) < (x3_2.length : Int)
        ·
         rw [if_pos c14] at H
         have c14b0 : decide ((ji12) < (x3_2.length : Int)) = true := decide_eq_true c14
         clear c14
         by_cases c15 : (rd x3_2 (ji12)) = 0
         ·
          rw [if_pos c15] at H
          have c15b0 : ((rd x3_2 (ji12)) == 0) = true := beq_iff_eq.mpr c15
          have c15b1 : ((rd x3_2 (ji12)) != 0) = false := bne_eq_false_iff_eq.mpr c15
          clear c15
          by_cases c16 : (ji12) ≤ (x3_2.length : Int)
          ·
           rw [if_pos c16] at H
           have c16b0 := eq_true c16
           have c16b1 : decide ((ji12) ≤ (x3_2.length : Int)) = true := decide_eq_true c16
           clear c16
           obtain ⟨y253, hy253⟩ : ∃ y_ : List Int, y_ = (x3_2.take ((ji12) : Int).toNat) := ⟨_, rfl⟩
           replace H : (samphireref02_Whole.l1 k2 y253) = some r := by first | (rw [hy253]; with_reducible exact H) | (have H2_ := (Option.bind_some _ _).symm.trans H; rw [hy253]; with_reducible exact H2_) | (have H2_ := (Option.bind_some _ _).symm.trans H; with_reducible exact H2_) | with_reducible exact H | (rw [hy253]; exact H) | exact H
           have Ny253 := Aside0.mk hy253
           clear hy253
           have H' := Aside0.mk H
           clear H
           obtain ⟨Ao17, co17, eo17⟩ := Kd.R_slice HO_3.out
           subst eo17
           have p252 : 0 ≤ ((ji12) : Int) := of_decide_eq_true (by first | (with_reducible assumption) | assumption)
           have q252 : (ji12) < (x3_2.length : Int) := of_decide_eq_true (by first | (with_reducible assumption) | assumption)
           obtain ⟨ad252, e252, hx252_0⟩ := Kd.at_int (Kd.R_reads' HO_3.out).2.2 (ji12) p252 q252
           cases e252
           replace p252 := eq_true p252
           replace q252 := eq_true q252
           have q18 : ((ji12) : Int) ≤ ((x3_2.length : Int) : Int) := of_decide_eq_true (by first | (with_reducible assumption) | assumption)
           obtain ⟨i018, hi018, _, hsz18, _⟩ := info_parts info48
           have hcut18 := cut_to (P := Try.prog) 25 48 .i64 Try.underlying25 hi018 (some ad252) x3_2.length co17 (ji12) (of_decide_eq_true (by first | (with_reducible assumption) | assumption)) q18 (Kd.R_reads' HO_3.out).2.1
           have hr18 := Kd.R_take (m := ((ji12) : Int).toNat) HO_3.out (by omega)
           have hy18 : y253.length = ((ji12) : Int).toNat := (by rw [Ny253.out, List.length_take]; omega)
           rw [← Ny253.out] at hr18
           rw [← hy18] at hr18 hcut18
           clear hy18 hi018 hsz18 HO_3
           have HO255 := Aside0.mk hr18
           clear hr18
           replace q18 := eq_true q18
           go_wp2
           go_roundg k2
           case measure => have := HK1.out; have := HK2.out; omega
           case rel => exact ⟨(y253), H', ⟨by have := HK1.out; have := HK2.out; omega⟩, ⟨by (with_reducible repeat (first | apply Kd.R_alloc | apply Kd.R_drewN | apply Kd.R_drew)); exact HO255.out⟩, ⟨by repeat (first | (with_reducible first | exact HB.out | apply below_alloc | apply pw_below_drewN | apply below_drew1) | exact HB.out)⟩⟩
          ·
           rw [if_neg c16] at H
           exact absurd H (by simp)
         ·
          rw [if_neg c15] at H
          have c15b0 : ((rd x3_2 (ji12)) == 0) = false := beq_eq_false_iff_ne.mpr c15
          have c15b1 : ((rd x3_2 (ji12)) != 0) = true := bne_iff_ne.mpr c15
          obtain rfl := Option.some.inj H
          obtain ⟨Ao19, co19, eo19⟩ := Kd.R_slice HO_3.out
          subst eo19
          have p252 : 0 ≤ ((ji12) : Int) := of_decide_eq_true (by first | (with_reducible assumption) | assumption)
          have q252 : (ji12) < (x3_2.length : Int) := of_decide_eq_true (by first | (with_reducible assumption) | assumption)
          obtain ⟨ad252, e252, hx252_0⟩ := Kd.at_int (Kd.R_reads' HO_3.out).2.2 (ji12) p252 q252
          cases e252
          replace p252 := eq_true p252
          replace q252 := eq_true q252
          go_wp2
          go_ret
          exact ⟨_, by first | rfl | (simp [errW_none, errW_some] <;> rfl) | (simp only [← hji12]; first | rfl | (simp [errW_none, errW_some] <;> rfl)) | (simp [*, errW_none, errW_some] <;> rfl), by (with_reducible repeat (first | apply Kd.R_alloc | apply Kd.R_drewN | apply Kd.R_drew)); exact HO_3.out, by repeat (first | (with_reducible first | exact HB.out | apply below_alloc | apply pw_below_drewN | apply below_drew1) | exact HB.out)⟩
        ·
         rw [if_neg c14] at H
         exact absurd H (by simp)
       ·
        rw [if_neg c13] at H
        exact absurd H (by simp)
      ·
       rw [if_neg c11] at H
       have c11b0 : decide (0 < (x3_2.length : Int)) = false := decide_eq_false c11
       have c11b1 : decide (0 < x3_2.length) = false := decide_eq_false (by omega)
       clear c11
       obtain rfl := Option.some.inj H
       obtain ⟨Ao20, co20, eo20⟩ := Kd.R_slice HO_3.out
       subst eo20
       go_wp2
       go_ret
       exact ⟨_, by first | rfl | (simp [errW_none, errW_some] <;> rfl) | (simp [*, errW_none, errW_some] <;> rfl), by (with_reducible repeat (first | apply Kd.R_alloc | apply Kd.R_drewN | apply Kd.R_drew)); exact HO_3.out, by repeat (first | (with_reducible first | exact HB.out | apply below_alloc | apply pw_below_drewN | apply below_drew1) | exact HB.out)⟩

/-! ### samphireref02_Half: function 31 -/
def samphireref02_Half.l0 : Nat → List Int → Int → List Int → Int → Option (List Int)
 | 0, _, _, _, _ => none
 | k + 1, x0, x1, x5, x6 => if x6 < x1 then (if (wrap64 (Int.tdiv x6 2)) < (x0.length : Int) then (if 0 ≤ (wrap64 (Int.tdiv x6 2)) then (if (Int.tmod x6 2) = 0 then (if x5.length < 17592186044416 then (samphireref02_Half.l0 k x0 x1 (x5 ++ [Int.tmod (IntKind.u64.wrap (rd x0 (wrap64 (Int.tdiv x6 2)))) 65536]) (wrap64 (x6 + 1))) else (none)) else (if x5.length < 17592186044416 then (samphireref02_Half.l0 k x0 x1 (x5 ++ [IntKind.u64.wrap (Int.tdiv (IntKind.u64.wrap (rd x0 (wrap64 (Int.tdiv x6 2)))) 65536)]) (wrap64 (x6 + 1))) else (none))) else (none)) else (if (Int.tmod x6 2) = 0 then (if x5.length < 17592186044416 then (samphireref02_Half.l0 k x0 x1 (x5 ++ [0]) (wrap64 (x6 + 1))) else (none)) else (if x5.length < 17592186044416 then (samphireref02_Half.l0 k x0 x1 (x5 ++ [0]) (wrap64 (x6 + 1))) else (none)))) else (some x5)
def samphireref02_Half.f (k : Nat) (l0 : List Int) (a1 : Int) : Option (List Int) := samphireref02_Half.l0 k l0 a1 ([] : List Int) 0
theorem samphireref02_Half.mono_l : ∀ k, (∀ y0 y1 y2 y3, LeO (samphireref02_Half.l0 k y0 y1 y2 y3) (samphireref02_Half.l0 (k + 1) y0 y1 y2 y3))
 | 0 => fun _ _ _ _ r h => by simp [samphireref02_Half.l0] at h
 | k + 1 => by
  have ih0 := samphireref02_Half.mono_l k
  ·
   intro y0 y1 y2 y3
   unfold samphireref02_Half.l0
   repeat' first
   | (with_reducible exact ih0 _ _ _ _)
   | (with_reducible exact LeO.refl _)
   | (with_reducible exact LeO.none _)
   | (with_reducible refine LeO.ite ?_ ?_)
   | (with_reducible refine LeO.bind ?_ (fun _ => ?_))
   | exact ih0 _ _ _ _
   | exact LeO.none _
   | refine LeO.ite ?_ ?_
   | refine LeO.bind ?_ (fun _ => ?_)
theorem samphireref02_Half.mono : ∀ a0 a1 k, LeO (samphireref02_Half.f k a0 a1) (samphireref02_Half.f (k + 1) a0 a1) := by
 intro a0 a1 k
 have ih0 := samphireref02_Half.mono_l k
 unfold samphireref02_Half.f
 repeat' first
   | (with_reducible exact ih0 _ _ _ _)
   | (with_reducible exact LeO.refl _)
   | (with_reducible exact LeO.none _)
   | (with_reducible refine LeO.ite ?_ ?_)
   | (with_reducible refine LeO.bind ?_ (fun _ => ?_))
   | exact ih0 _ _ _ _
   | exact LeO.none _
   | refine LeO.ite ?_ ?_
   | refine LeO.bind ?_ (fun _ => ?_)
set_option maxHeartbeats 8000000 in
set_option maxRecDepth 100000 in
theorem samphireref02_Half.calls (k : Nat) (A0 : Option Addr) (c0 : Nat) (l0 : List Int) (a1 : Int) (r : List Int) (w : World) (hr0 : Kd.C (Kd.int .u32) w A0 l0.length l0) (hc0 : l0.length ≤ c0) (h : samphireref02_Half.f k l0 a1 = some r) :
  Calls Try.prog 31 #[.slice A0 l0.length c0, .int .i64 a1] w fun e w' => ∃ v0_ : Value, e = .returned (v0_) ∧ Kd.R (Kd.int .u64) 23 w' w.heap.size (fun _ => True) v0_ r ∧ Below w.heap.size w w' := by
 have HR0 := Aside0.mk hr0
 have HC0 := Aside0.mk hc0
 clear hr0 hc0
 have HB := Aside0.mk (Below.refl w.heap.size w)
 have H : (samphireref02_Half.l0 k l0 a1 ([] : List Int) 0) = some r := h
 clear h
 have H' := Aside0.mk H
 clear H
 go_enter Try.func31, Try.ntmps31
 go_wp2
 go_loopg [5, 6] k (fun kq v5 v6 w' => ∃ (x5_1 : List Int) (x6_1 : Int), v6 = .int .i64 x6_1 ∧ Aside0 (samphireref02_Half.l0 kq l0 a1 x5_1 x6_1 = some r) ∧ Aside0 (kq ≤ k) ∧ Aside0 (Kd.R (Kd.int .u64) 23 w' w.heap.size (fun _ => True) v5 x5_1) ∧ Aside0 (Below w.heap.size w w'))
 case atStart => exact ⟨(([] : List Int)), (0), (by first | rfl | (simp; done) | (simp [*]; done)), H', ⟨Nat.le_refl _⟩, ⟨by first | exact Kd.R_nil _ _ _ _ _ | exact Kd.N_nil _ _ _ _ _ | exact Kd.V_nil _ _ _ _ _ | exact Kd.Q_nil _ _ _ _ _ | exact Kd.S_nil _ _ _ _ _⟩, ⟨by repeat (first | (with_reducible first | exact HB.out | apply below_alloc | apply pw_below_drewN | apply below_drew1) | exact HB.out)⟩⟩
 case round =>
  clear H'
  try clear p2
  obtain ⟨x5_1, x6_1, rfl, HA, HK1, HO_5, HB⟩ := hrel
  cases gk with
  | zero => exact absurd HA.out (by simp [samphireref02_Half.l0])
  | succ k1 =>
   have H := HA.out
   clear HA
   simp only [samphireref02_Half.l0] at H
   by_cases c3 : x6_1 < a1
   ·
    rw [if_pos c3] at H
    have c3b0 : decide (x6_1 < a1) = true := decide_eq_true c3
    clear c3
    by_cases c4 : (wrap64 (Int.tdiv x6_1 2)) < (l0.length : Int)
    ·
     rw [if_pos c4] at H
     have c4b0 : decide ((wrap64 (Int.tdiv x6_1 2)) < (l0.length : Int)) = true := decide_eq_true c4
     clear c4
     obtain ⟨ji5, hji5⟩ : ∃ j_ : Int, (wrap64 (Int.tdiv x6_1 2)) = j_ := ⟨_, rfl⟩
     replace H : (if 0 ≤ (ji5) then (if (Int.tmod x6_1 2) = 0 then (if x5_1.length < 17592186044416 then (samphireref02_Half.l0 k1 l0 a1 (x5_1 ++ [Int.tmod (IntKind.u64.wrap (rd l0 (ji5))) 65536]) (wrap64 (x6_1 + 1))) else (none)) else (if x5_1.length < 17592186044416 then (samphireref02_Half.l0 k1 l0 a1 (x5_1 ++ [IntKind.u64.wrap (Int.tdiv (IntKind.u64.wrap (rd l0 (ji5))) 65536)]) (wrap64 (x6_1 + 1))) else (none))) else (none)) = some r := by first | (rw [hji5] at H; exact H) | (simp only [hji5] at H ⊢; exact H)
     (try rw [hji5] at c4b0)
     have hji5w : (IntKind.i64.wrap (Int.tdiv x6_1 2)) = ji5 := (i64_w _).trans hji5
     by_cases c6 : 0 ≤ (ji5)
     ·
      rw [if_pos c6] at H
      have c6b0 : decide (0 ≤ (ji5)) = true := decide_eq_true c6
      clear c6
      by_cases c7 : (Int.tmod x6_1 2) = 0
      ·
       rw [if_pos c7] at H
       have c7b0 : ((Int.tmod x6_1 2) == 0) = true := beq_iff_eq.mpr c7
       have c7b1 : ((Int.tmod x6_1 2) != 0) = false := bne_eq_false_iff_eq.mpr c7
       clear c7
       by_cases c8 : x5_1.length < 17592186044416
       ·
        rw [if_pos c8] at H
        have LMc8 := Aside0.mk c8
        clear c8
        obtain ⟨y257, hy257⟩ : ∃ y_ : List Int, y_ = (x5_1 ++ [Int.tmod (IntKind.u64.wrap (rd l0 (ji5))) 65536]) := ⟨_, rfl⟩
        replace H : (samphireref02_Half.l0 k1 l0 a1 y257 (wrap64 (x6_1 + 1))) = some r := by first | (rw [hy257]; with_reducible exact H) | (have H2_ := (Option.bind_some _ _).symm.trans H; rw [hy257]; with_reducible exact H2_) | (have H2_ := (Option.bind_some _ _).symm.trans H; with_reducible exact H2_) | with_reducible exact H | (rw [hy257]; exact H) | exact H
        have Ny257 := Aside0.mk hy257
        clear hy257
        have H' := Aside0.mk H
        clear H
        have p256 : 0 ≤ ((ji5) : Int) := of_decide_eq_true (by first | (with_reducible assumption) | assumption)
        have q256 : (ji5) < (l0.length : Int) := of_decide_eq_true (by first | (with_reducible assumption) | assumption)
        obtain ⟨ad256, e256, hx256_0⟩ := Kd.at_int HR0.out (ji5) p256 q256
        cases e256
        replace hx256_0 := (HB.out.cell (World.block_lt_of_cell? w _ hx256_0)).trans hx256_0
        replace p256 := eq_true p256
        replace q256 := eq_true q256
        go_wp2_with (first | ((with_reducible refine gate_builtin (b := .append) (xs := #[.tmp 27, .tmp 30]) rfl ?_); at_builtin; refine Kd.R_append (Kd.int .u64) (w0 := w) w.heap.size rfl (.tmp 27) (.tmp 30) 22 23 (.int .u64 0) 8 rfl Try.underlying22 info23 rfl (by decide) (by omega) u5 x5_1 (Int.tmod (IntKind.u64.wrap (rd l0 (ji5))) 65536) [.int .u64 (Int.tmod (IntKind.u64.wrap (rd l0 (ji5))) 65536)] (fun _ => True) (fun _ => False) rfl rfl ?aP (fun _ hk => hk.elim) ?aF ?aO ?aB ?aS ?aL ?_; (case aP => exact rfl); (case aB => exact (by repeat (first | (with_reducible first | exact HB.out | apply below_alloc | apply pw_below_drewN | apply below_drew1) | exact HB.out))); (case aF => exact (fun _ _ => trivial)); (case aO => exact (by (with_reducible repeat (first | apply Kd.R_alloc | apply Kd.R_drewN | apply Kd.R_drew)); exact HO_5.out)); (case aS => exact (below_size (by repeat (first | (with_reducible first | exact HB.out | apply below_alloc | apply pw_below_drewN | apply below_drew1) | exact HB.out)))); (case aL => have := LMc8.out; omega); intro v258 w9 ho hb hg hat; rw [← Ny257.out] at ho; have n0_ := Aside0.mk (hb); have n1_ := Aside0.mk (ho); clear HB; clear HO_5; have HB := n0_; have HO259 := n1_; clear n0_ n1_; clear ho hb hg hat))
        go_roundg k1
        case measure => have := HK1.out; omega
        case rel => exact ⟨(y257), (wrap64 (x6_1 + 1)), (by first | rfl | (simp; done) | (simp [*]; done)), H', ⟨by have := HK1.out; omega⟩, ⟨by (with_reducible repeat (first | apply Kd.R_alloc | apply Kd.R_drewN | apply Kd.R_drew)); exact HO259.out⟩, ⟨by repeat (first | (with_reducible first | exact HB.out | apply below_alloc | apply pw_below_drewN | apply below_drew1) | exact HB.out)⟩⟩
       ·
        rw [if_neg c8] at H
        exact absurd H (by simp)
      ·
       rw [if_neg c7] at H
       have c7b0 : ((Int.tmod x6_1 2) == 0) = false := beq_eq_false_iff_ne.mpr c7
       have c7b1 : ((Int.tmod x6_1 2) != 0) = true := bne_iff_ne.mpr c7
       by_cases c10 : x5_1.length < 17592186044416
       ·
        rw [if_pos c10] at H
        have LMc10 := Aside0.mk c10
        clear c10
        obtain ⟨y260, hy260⟩ : ∃ y_ : List Int, y_ = (x5_1 ++ [IntKind.u64.wrap (Int.tdiv (IntKind.u64.wrap (rd l0 (ji5))) 65536)]) := ⟨_, rfl⟩
        replace H : (samphireref02_Half.l0 k1 l0 a1 y260 (wrap64 (x6_1 + 1))) = some r := by first | (rw [hy260]; with_reducible exact H) | (have H2_ := (Option.bind_some _ _).symm.trans H; rw [hy260]; with_reducible exact H2_) | (have H2_ := (Option.bind_some _ _).symm.trans H; with_reducible exact H2_) | with_reducible exact H | (rw [hy260]; exact H) | exact H
        have Ny260 := Aside0.mk hy260
        clear hy260
        have H' := Aside0.mk H
        clear H
        have p256 : 0 ≤ ((ji5) : Int) := of_decide_eq_true (by first | (with_reducible assumption) | assumption)
        have q256 : (ji5) < (l0.length : Int) := of_decide_eq_true (by first | (with_reducible assumption) | assumption)
        obtain ⟨ad256, e256, hx256_0⟩ := Kd.at_int HR0.out (ji5) p256 q256
        cases e256
        replace hx256_0 := (HB.out.cell (World.block_lt_of_cell? w _ hx256_0)).trans hx256_0
        replace p256 := eq_true p256
        replace q256 := eq_true q256
        go_wp2_with (first | ((with_reducible refine gate_builtin (b := .append) (xs := #[.tmp 32, .tmp 35]) rfl ?_); at_builtin; refine Kd.R_append (Kd.int .u64) (w0 := w) w.heap.size rfl (.tmp 32) (.tmp 35) 22 23 (.int .u64 0) 8 rfl Try.underlying22 info23 rfl (by decide) (by omega) u5 x5_1 (IntKind.u64.wrap (Int.tdiv (IntKind.u64.wrap (rd l0 (ji5))) 65536)) [.int .u64 (IntKind.u64.wrap (Int.tdiv (IntKind.u64.wrap (rd l0 (ji5))) 65536))] (fun _ => True) (fun _ => False) rfl rfl ?aP (fun _ hk => hk.elim) ?aF ?aO ?aB ?aS ?aL ?_; (case aP => exact rfl); (case aB => exact (by repeat (first | (with_reducible first | exact HB.out | apply below_alloc | apply pw_below_drewN | apply below_drew1) | exact HB.out))); (case aF => exact (fun _ _ => trivial)); (case aO => exact (by (with_reducible repeat (first | apply Kd.R_alloc | apply Kd.R_drewN | apply Kd.R_drew)); exact HO_5.out)); (case aS => exact (below_size (by repeat (first | (with_reducible first | exact HB.out | apply below_alloc | apply pw_below_drewN | apply below_drew1) | exact HB.out)))); (case aL => have := LMc10.out; omega); intro v261 w11 ho hb hg hat; rw [← Ny260.out] at ho; have n0_ := Aside0.mk (hb); have n1_ := Aside0.mk (ho); clear HB; clear HO_5; have HB := n0_; have HO262 := n1_; clear n0_ n1_; clear ho hb hg hat))
        go_roundg k1
        case measure => have := HK1.out; omega
        case rel => exact ⟨(y260), (wrap64 (x6_1 + 1)), (by first | rfl | (simp; done) | (simp [*]; done)), H', ⟨by have := HK1.out; omega⟩, ⟨by (with_reducible repeat (first | apply Kd.R_alloc | apply Kd.R_drewN | apply Kd.R_drew)); exact HO262.out⟩, ⟨by repeat (first | (with_reducible first | exact HB.out | apply below_alloc | apply pw_below_drewN | apply below_drew1) | exact HB.out)⟩⟩
       ·
        rw [if_neg c10] at H
        exact absurd H (by simp)
     ·
      rw [if_neg c6] at H
      exact absurd H (by simp)
    ·
     rw [if_neg c4] at H
     have c4b0 : decide ((wrap64 (Int.tdiv x6_1 2)) < (l0.length : Int)) = false := decide_eq_false c4
     clear c4
     by_cases c12 : (Int.tmod x6_1 2) = 0
     ·
      rw [if_pos c12] at H
      have c12b0 : ((Int.tmod x6_1 2) == 0) = true := beq_iff_eq.mpr c12
      have c12b1 : ((Int.tmod x6_1 2) != 0) = false := bne_eq_false_iff_eq.mpr c12
      clear c12
      by_cases c13 : x5_1.length < 17592186044416
      ·
       rw [if_pos c13] at H
       have LMc13 := Aside0.mk c13
       clear c13
       obtain ⟨y263, hy263⟩ : ∃ y_ : List Int, y_ = (x5_1 ++ [0]) := ⟨_, rfl⟩
       replace H : (samphireref02_Half.l0 k1 l0 a1 y263 (wrap64 (x6_1 + 1))) = some r := by first | (rw [hy263]; with_reducible exact H) | (have H2_ := (Option.bind_some _ _).symm.trans H; rw [hy263]; with_reducible exact H2_) | (have H2_ := (Option.bind_some _ _).symm.trans H; with_reducible exact H2_) | with_reducible exact H | (rw [hy263]; exact H) | exact H
       have Ny263 := Aside0.mk hy263
       clear hy263
       have H' := Aside0.mk H
       clear H
       go_wp2_with (first | ((with_reducible refine gate_builtin (b := .append) (xs := #[.tmp 27, .tmp 30]) rfl ?_); at_builtin; refine Kd.R_append (Kd.int .u64) (w0 := w) w.heap.size rfl (.tmp 27) (.tmp 30) 22 23 (.int .u64 0) 8 rfl Try.underlying22 info23 rfl (by decide) (by omega) u5 x5_1 0 [.int .u64 0] (fun _ => True) (fun _ => False) rfl rfl ?aP (fun _ hk => hk.elim) ?aF ?aO ?aB ?aS ?aL ?_; (case aP => exact rfl); (case aB => exact (by repeat (first | (with_reducible first | exact HB.out | apply below_alloc | apply pw_below_drewN | apply below_drew1) | exact HB.out))); (case aF => exact (fun _ _ => trivial)); (case aO => exact (by (with_reducible repeat (first | apply Kd.R_alloc | apply Kd.R_drewN | apply Kd.R_drew)); exact HO_5.out)); (case aS => exact (below_size (by repeat (first | (with_reducible first | exact HB.out | apply below_alloc | apply pw_below_drewN | apply below_drew1) | exact HB.out)))); (case aL => have := LMc13.out; omega); intro v264 w14 ho hb hg hat; rw [← Ny263.out] at ho; have n0_ := Aside0.mk (hb); have n1_ := Aside0.mk (ho); clear HB; clear HO_5; have HB := n0_; have HO265 := n1_; clear n0_ n1_; clear ho hb hg hat))
       go_roundg k1
       case measure => have := HK1.out; omega
       case rel => exact ⟨(y263), (wrap64 (x6_1 + 1)), (by first | rfl | (simp; done) | (simp [*]; done)), H', ⟨by have := HK1.out; omega⟩, ⟨by (with_reducible repeat (first | apply Kd.R_alloc | apply Kd.R_drewN | apply Kd.R_drew)); exact HO265.out⟩, ⟨by repeat (first | (with_reducible first | exact HB.out | apply below_alloc | apply pw_below_drewN | apply below_drew1) | exact HB.out)⟩⟩
      ·
       rw [if_neg c13] at H
       exact absurd H (by simp)
     ·
      rw [if_neg c12] at H
      have c12b0 : ((Int.tmod x6_1 2) == 0) = false := beq_eq_false_iff_ne.mpr c12
      have c12b1 : ((Int.tmod x6_1 2) != 0) = true := bne_iff_ne.mpr c12
      by_cases c15 : x5_1.length < 17592186044416
      ·
       rw [if_pos c15] at H
       have LMc15 := Aside0.mk c15
       clear c15
       obtain ⟨y266, hy266⟩ : ∃ y_ : List Int, y_ = (x5_1 ++ [0]) := ⟨_, rfl⟩
       replace H : (samphireref02_Half.l0 k1 l0 a1 y266 (wrap64 (x6_1 + 1))) = some r := by first | (rw [hy266]; with_reducible exact H) | (have H2_ := (Option.bind_some _ _).symm.trans H; rw [hy266]; with_reducible exact H2_) | (have H2_ := (Option.bind_some _ _).symm.trans H; with_reducible exact H2_) | with_reducible exact H | (rw [hy266]; exact H) | exact H
       have Ny266 := Aside0.mk hy266
       clear hy266
       have H' := Aside0.mk H
       clear H
       go_wp2_with (first | ((with_reducible refine gate_builtin (b := .append) (xs := #[.tmp 32, .tmp 35]) rfl ?_); at_builtin; refine Kd.R_append (Kd.int .u64) (w0 := w) w.heap.size rfl (.tmp 32) (.tmp 35) 22 23 (.int .u64 0) 8 rfl Try.underlying22 info23 rfl (by decide) (by omega) u5 x5_1 0 [.int .u64 0] (fun _ => True) (fun _ => False) rfl rfl ?aP (fun _ hk => hk.elim) ?aF ?aO ?aB ?aS ?aL ?_; (case aP => exact rfl); (case aB => exact (by repeat (first | (with_reducible first | exact HB.out | apply below_alloc | apply pw_below_drewN | apply below_drew1) | exact HB.out))); (case aF => exact (fun _ _ => trivial)); (case aO => exact (by (with_reducible repeat (first | apply Kd.R_alloc | apply Kd.R_drewN | apply Kd.R_drew)); exact HO_5.out)); (case aS => exact (below_size (by repeat (first | (with_reducible first | exact HB.out | apply below_alloc | apply pw_below_drewN | apply below_drew1) | exact HB.out)))); (case aL => have := LMc15.out; omega); intro v267 w16 ho hb hg hat; rw [← Ny266.out] at ho; have n0_ := Aside0.mk (hb); have n1_ := Aside0.mk (ho); clear HB; clear HO_5; have HB := n0_; have HO268 := n1_; clear n0_ n1_; clear ho hb hg hat))
       go_roundg k1
       case measure => have := HK1.out; omega
       case rel => exact ⟨(y266), (wrap64 (x6_1 + 1)), (by first | rfl | (simp; done) | (simp [*]; done)), H', ⟨by have := HK1.out; omega⟩, ⟨by (with_reducible repeat (first | apply Kd.R_alloc | apply Kd.R_drewN | apply Kd.R_drew)); exact HO268.out⟩, ⟨by repeat (first | (with_reducible first | exact HB.out | apply below_alloc | apply pw_below_drewN | apply below_drew1) | exact HB.out)⟩⟩
      ·
       rw [if_neg c15] at H
       exact absurd H (by simp)
   ·
    rw [if_neg c3] at H
    have c3b0 : decide (x6_1 < a1) = false := decide_eq_false c3
    clear c3
    obtain rfl := Option.some.inj H
    go_wp2
    go_ret
    exact ⟨_, by first | rfl | (simp [errW_none, errW_some] <;> rfl) | (simp [*, errW_none, errW_some] <;> rfl), by (with_reducible repeat (first | apply Kd.R_alloc | apply Kd.R_drewN | apply Kd.R_drew)); exact HO_5.out, by repeat (first | (with_reducible first | exact HB.out | apply below_alloc | apply pw_below_drewN | apply below_drew1) | exact HB.out)⟩

end Go.Proofs.Ytpgfadljcmakfaa.T
