/- Walks of Go functions, each against a plain function over numbers and lists; written by this session's program printx.py over the kit's print; no condition but those that each theorem states. -/
import Derived.Test.YthgacimoifbhiaaQx0
import Derived.Test.YthgacimoifbhiaaM3
import Derived.Test.YthgacimoifbhiaaSx3
namespace Go.Proofs.Ythgacimoifbhiaa.Q
open Go.RowKit Go.Proofs.YthgacimoifbhiaaW.PrintWords Go.Proofs.YthgacimoifbhiaaW.PrintLast Go.Proofs.YthgacimoifbhiaaW.PrintMore
attribute [local go_sem] max2_int min2_int max_two min_two max_three min_three max_four min_four   -- for this text's walks alone
set_option linter.unusedVariables false
set_option linter.unusedSimpArgs false

/-! ### samphirelaw16_ReserveShare: function 8 -/
mutual
def samphirelaw16_ReserveShare.l0 : Nat → Int → Int → Int → Int → Int → List ByteArray → Int → Int → List ByteArray → Option (Bool)
  | 0, _, _, _, _, _, _, _, _, _ => none
  | k + 1, x7, x28, x29, x192000, x192001, x192002, x196000, x196001, x196002 => if x29 < x28 then ((reserve_Merge.f x192000 x192001 x192002 x196000 x196001 x196002 (([x29] : List Int)) 0).bind fun bt200 => (if bt200.2.2.2.2.2 = 0 then (if (bt200.2.2.1.length : Int) = 1 then (if bt200.2.2.2.2.1 = 1 then (samphirelaw16_ReserveShare.j1 k x7 x28 x29 (bt200.2.1 != (IntKind.u64.wrap (x192001 + x196001))) x192000 x192001 x192002 x196000 x196001 x196002 bt200.1 bt200.2.1 bt200.2.2.1) else (samphirelaw16_ReserveShare.j1 k x7 x28 x29 true x192000 x192001 x192002 x196000 x196001 x196002 bt200.1 bt200.2.1 bt200.2.2.1)) else (samphirelaw16_ReserveShare.j1 k x7 x28 x29 true x192000 x192001 x192002 x196000 x196001 x196002 bt200.1 bt200.2.1 bt200.2.2.1)) else (samphirelaw16_ReserveShare.j1 k x7 x28 x29 true x192000 x192001 x192002 x196000 x196001 x196002 bt200.1 bt200.2.1 bt200.2.2.1))) else (if x7 = x192001 then ((samphirelaw16_awake.f k).bind fun t196 => (some t196)) else (some false))
def samphirelaw16_ReserveShare.j1 : Nat → Int → Int → Int → Bool → Int → Int → List ByteArray → Int → Int → List ByteArray → Int → Int → List ByteArray → Option (Bool)
  | 0, _, _, _, _, _, _, _, _, _, _, _, _, _ => none
  | k + 1, x7, x28, x29, x64, x192000, x192001, x192002, x196000, x196001, x196002, x211000, x211001, x211002 => if x64 = true then (some false) else (if 0 < (x211002.length : Int) then (if (rdOf ByteArray.empty x211002 0).toList = ([97] : List UInt8) then (samphirelaw16_ReserveShare.l0 k (IntKind.u64.wrap (x7 + 1)) x28 (IntKind.u64.wrap (x29 + 1)) x192000 x192001 x192002 x196000 x196001 x196002) else (samphirelaw16_ReserveShare.l0 k x7 x28 (IntKind.u64.wrap (x29 + 1)) x192000 x192001 x192002 x196000 x196001 x196002)) else (none))
end
def samphirelaw16_ReserveShare.f (k : Nat) (a0 : Int) (a1 : Int) : Option (Bool) := samphirelaw16_ReserveShare.l0 k 0 (IntKind.u64.wrap ((IntKind.u64.wrap (1 + (IntKind.u64.wrap (Int.tmod a0 60)))) + (IntKind.u64.wrap (1 + (IntKind.u64.wrap (Int.tmod a1 60)))))) 0 1 (IntKind.u64.wrap (1 + (IntKind.u64.wrap (Int.tmod a0 60)))) (([(⟨#[97]⟩ : ByteArray)] : List ByteArray)) 1 (IntKind.u64.wrap (1 + (IntKind.u64.wrap (Int.tmod a1 60)))) (([(⟨#[98]⟩ : ByteArray)] : List ByteArray))
theorem samphirelaw16_ReserveShare.mono_l : ∀ k, (∀ y0 y1 y2 y3 y4 y5 y6 y7 y8, LeO (samphirelaw16_ReserveShare.l0 k y0 y1 y2 y3 y4 y5 y6 y7 y8) (samphirelaw16_ReserveShare.l0 (k + 1) y0 y1 y2 y3 y4 y5 y6 y7 y8)) ∧ (∀ y0 y1 y2 y3 y4 y5 y6 y7 y8 y9 y10 y11 y12, LeO (samphirelaw16_ReserveShare.j1 k y0 y1 y2 y3 y4 y5 y6 y7 y8 y9 y10 y11 y12) (samphirelaw16_ReserveShare.j1 (k + 1) y0 y1 y2 y3 y4 y5 y6 y7 y8 y9 y10 y11 y12))
  | 0 => ⟨fun _ _ _ _ _ _ _ _ _ r h => by simp [samphirelaw16_ReserveShare.l0] at h, fun _ _ _ _ _ _ _ _ _ _ _ _ _ r h => by simp [samphirelaw16_ReserveShare.j1] at h⟩
  | k + 1 => by
    obtain ⟨ih0, ih1⟩ := samphirelaw16_ReserveShare.mono_l k
    refine ⟨?_, ?_⟩
    · intro y0 y1 y2 y3 y4 y5 y6 y7 y8
      unfold samphirelaw16_ReserveShare.l0
      repeat' first
      | (with_reducible exact ih0 _ _ _ _ _ _ _ _ _)
      | (with_reducible exact ih1 _ _ _ _ _ _ _ _ _ _ _ _ _)
      | (with_reducible exact samphirelaw16_awake.mono _)
      | (with_reducible exact LeO.refl _)
      | (with_reducible exact LeO.none _)
      | (with_reducible refine LeO.ite ?_ ?_)
      | (with_reducible refine LeO.bind ?_ (fun _ => ?_))
      | exact ih0 _ _ _ _ _ _ _ _ _
      | exact ih1 _ _ _ _ _ _ _ _ _ _ _ _ _
      | exact samphirelaw16_awake.mono _
      | exact LeO.none _
      | refine LeO.ite ?_ ?_
      | refine LeO.bind ?_ (fun _ => ?_)
    · intro y0 y1 y2 y3 y4 y5 y6 y7 y8 y9 y10 y11 y12
      unfold samphirelaw16_ReserveShare.j1
      repeat' first
      | (with_reducible exact ih0 _ _ _ _ _ _ _ _ _)
      | (with_reducible exact ih1 _ _ _ _ _ _ _ _ _ _ _ _ _)
      | (with_reducible exact samphirelaw16_awake.mono _)
      | (with_reducible exact LeO.refl _)
      | (with_reducible exact LeO.none _)
      | (with_reducible refine LeO.ite ?_ ?_)
      | (with_reducible refine LeO.bind ?_ (fun _ => ?_))
      | exact ih0 _ _ _ _ _ _ _ _ _
      | exact ih1 _ _ _ _ _ _ _ _ _ _ _ _ _
      | exact samphirelaw16_awake.mono _
      | exact LeO.none _
      | refine LeO.ite ?_ ?_
      | refine LeO.bind ?_ (fun _ => ?_)
theorem samphirelaw16_ReserveShare.mono : ∀ a0 a1 k, LeO (samphirelaw16_ReserveShare.f k a0 a1) (samphirelaw16_ReserveShare.f (k + 1) a0 a1) := by
  intro a0 a1 k
  obtain ⟨ih0, ih1⟩ := samphirelaw16_ReserveShare.mono_l k
  unfold samphirelaw16_ReserveShare.f
  repeat' first
      | (with_reducible exact ih0 _ _ _ _ _ _ _ _ _)
      | (with_reducible exact ih1 _ _ _ _ _ _ _ _ _ _ _ _ _)
      | (with_reducible exact samphirelaw16_awake.mono _)
      | (with_reducible exact LeO.refl _)
      | (with_reducible exact LeO.none _)
      | (with_reducible refine LeO.ite ?_ ?_)
      | (with_reducible refine LeO.bind ?_ (fun _ => ?_))
      | exact ih0 _ _ _ _ _ _ _ _ _
      | exact ih1 _ _ _ _ _ _ _ _ _ _ _ _ _
      | exact samphirelaw16_awake.mono _
      | exact LeO.none _
      | refine LeO.ite ?_ ?_
      | refine LeO.bind ?_ (fun _ => ?_)
set_option maxHeartbeats 8000000 in
set_option maxRecDepth 100000 in
theorem samphirelaw16_ReserveShare.calls (k : Nat) (a0 : Int) (a1 : Int) (r : Bool) (w : World) (h : samphirelaw16_ReserveShare.f k a0 a1 = some r) :
    Calls Try.prog 8 #[.int .u8 a0, .int .u8 a1] w fun e w' => e = .returned (.bool r) ∧ Below w.heap.size w w' := by
  have hu26 := Try.underlying26
  have hu32 := Try.underlying32
  have HB := Aside0.mk (Below.refl w.heap.size w)
  have H : (samphirelaw16_ReserveShare.l0 k 0 (IntKind.u64.wrap ((IntKind.u64.wrap (1 + (IntKind.u64.wrap (Int.tmod a0 60)))) + (IntKind.u64.wrap (1 + (IntKind.u64.wrap (Int.tmod a1 60)))))) 0 1 (IntKind.u64.wrap (1 + (IntKind.u64.wrap (Int.tmod a0 60)))) (([(⟨#[97]⟩ : ByteArray)] : List ByteArray)) 1 (IntKind.u64.wrap (1 + (IntKind.u64.wrap (Int.tmod a1 60)))) (([(⟨#[98]⟩ : ByteArray)] : List ByteArray))) = some r := h
  clear h
  obtain ⟨y188, hy188⟩ : ∃ y_ : List ByteArray, y_ = (([(⟨#[97]⟩ : ByteArray)] : List ByteArray)) := ⟨_, rfl⟩
  replace H : (samphirelaw16_ReserveShare.l0 k 0 (IntKind.u64.wrap ((IntKind.u64.wrap (1 + (IntKind.u64.wrap (Int.tmod a0 60)))) + (IntKind.u64.wrap (1 + (IntKind.u64.wrap (Int.tmod a1 60)))))) 0 1 (IntKind.u64.wrap (1 + (IntKind.u64.wrap (Int.tmod a0 60)))) y188 1 (IntKind.u64.wrap (1 + (IntKind.u64.wrap (Int.tmod a1 60)))) (([(⟨#[98]⟩ : ByteArray)] : List ByteArray))) = some r := by first | (rw [hy188]; with_reducible exact H) | (have H2_ := (Option.bind_some _ _).symm.trans H; rw [hy188]; with_reducible exact H2_) | (have H2_ := (Option.bind_some _ _).symm.trans H; with_reducible exact H2_) | with_reducible exact H | (rw [hy188]; exact H) | exact H
  have Ny188 := Aside0.mk hy188
  clear hy188
  obtain ⟨y192, hy192⟩ : ∃ y_ : List ByteArray, y_ = (([(⟨#[98]⟩ : ByteArray)] : List ByteArray)) := ⟨_, rfl⟩
  replace H : (samphirelaw16_ReserveShare.l0 k 0 (IntKind.u64.wrap ((IntKind.u64.wrap (1 + (IntKind.u64.wrap (Int.tmod a0 60)))) + (IntKind.u64.wrap (1 + (IntKind.u64.wrap (Int.tmod a1 60)))))) 0 1 (IntKind.u64.wrap (1 + (IntKind.u64.wrap (Int.tmod a0 60)))) y188 1 (IntKind.u64.wrap (1 + (IntKind.u64.wrap (Int.tmod a1 60)))) y192) = some r := by first | (rw [hy192]; with_reducible exact H) | (have H2_ := (Option.bind_some _ _).symm.trans H; rw [hy192]; with_reducible exact H2_) | (have H2_ := (Option.bind_some _ _).symm.trans H; with_reducible exact H2_) | with_reducible exact H | (rw [hy192]; exact H) | exact H
  have Ny192 := Aside0.mk hy192
  clear hy192
  have H' := Aside0.mk H
  clear H
  go_enter Try.func8, Try.ntmps8
  go_wp2_with (first | ((with_reducible refine gate_dst (N := 16) rfl ?_); (try (refine gate_guard (by rfl) ?_; dsimp only)); refine Kd.R_lit Kd.string _ 9 ?hg (N := 16) ?hd (xs := ([(⟨#[97]⟩ : ByteArray)] : List ByteArray)) (inner := [.string (⟨#[97]⟩ : ByteArray)]) (ok := fun _ => True) (okp := fun _ => True) ?hr ?hp (fun _ hk => hk) trivial (Below.refl _ _) (Nat.le_refl _) (by simp) ?_; (case hd => rfl); (case hg => rfl); (case hr => first | (go_simp; done) | (go_simp; rfl)); (case hp => exact (Reps.one (show Kd.M Kd.string _ _ _ (⟨#[97]⟩ : ByteArray) [.string (⟨#[97]⟩ : ByteArray)] from rfl) (Reps.none _ _))); intro v189 w3 ho4 hb hg_ hnew_; clear hg_ hnew_; (first | rw [← Ny188.out] at ho4 | (simp only [Int.reduceToNat] at ho4; rw [← Ny188.out] at ho4)); have n0_ := Aside0.mk (Kd.R_lower ho4 (below_size (by repeat (first | (with_reducible first | exact HB.out | apply below_alloc | apply pw_below_drewN | apply below_drew1) | exact HB.out)))); have n1_ := Aside0.mk (below_step (by repeat (first | (with_reducible first | exact HB.out | apply below_alloc | apply pw_below_drewN | apply below_drew1) | exact HB.out)) hb); clear HB; have HO190 := n0_; have HB := n1_; clear n0_ n1_; clear hb ho4; obtain ⟨Ao5, co5, eo5⟩ := Kd.R_slice HO190.out; subst eo5) | ((with_reducible refine gate_dst (N := 5) rfl ?_); (try (refine gate_guard (by rfl) ?_; dsimp only)); refine box_event ?hg (N := 5) ?hd (cs := #[.int .i64 0, .int .u64 0, .slice none 0 0]) (t := 26) ?hr ?_; (case hd => rfl); (case hg => rfl); (case hr => first | (go_simp; done) | (go_simp; rfl)); intro gb191 hg w6 hbox hb; have n0_ := Aside0.mk (Kd.R_below (by (with_reducible repeat (first | apply Kd.R_alloc | apply Kd.R_drewN | apply Kd.R_drew)); exact HO190.out) hb); have n1_ := Aside0.mk (below_step (by repeat (first | (with_reducible first | exact HB.out | apply below_alloc | apply pw_below_drewN | apply below_drew1) | exact HB.out)) hb); have n2_ := Aside0.mk (hbox); have n3_ := Aside0.mk ((by rw [hg]; exact (below_size (by repeat (first | (with_reducible first | exact HB.out | apply below_alloc | apply pw_below_drewN | apply below_drew1) | exact HB.out))) : w.heap.size ≤ gb191)); have n4_ := Aside0.mk ((by rw [hg]; exact (below_size (by repeat (first | (with_reducible first | exact HB.out | apply below_alloc | apply pw_below_drewN | apply below_drew1) | exact HB.out))) : w.heap.size ≤ gb191)); clear HO190; clear HB; have HO190 := n0_; have HB := n1_; have BK191 := n2_; have GW191 := n3_; have GE191 := n4_; clear n0_ n1_ n2_ n3_ n4_; clear hb hbox hg; have hcz7_0 : w6.cell? ⟨gb191, 0, none⟩ = some (.int .i64 0) := (blk_cell BK191.out 0).trans rfl; have hcz7_1 : w6.cell? ⟨gb191, 1, none⟩ = some (.int .u64 0) := (blk_cell BK191.out 1).trans rfl; have hcz7_2 : w6.cell? ⟨gb191, 2, none⟩ = some (.slice none 0 0) := (blk_cell BK191.out 2).trans rfl; have hfz7_0 := blk_frozen BK191.out 0; have hfz7_1 := blk_frozen BK191.out 1; have hfz7_2 := blk_frozen BK191.out 2) | ((with_reducible refine gate_dst (N := 22) rfl ?_); (try (refine gate_guard (by rfl) ?_; dsimp only)); refine Kd.R_lit Kd.string _ 9 ?hg (N := 22) ?hd (xs := ([(⟨#[98]⟩ : ByteArray)] : List ByteArray)) (inner := [.string (⟨#[98]⟩ : ByteArray)]) (ok := fun _ => True) (okp := fun _ => True) ?hr ?hp (fun _ hk => hk) trivial (Below.refl _ _) (Nat.le_refl _) (by simp) ?_; (case hd => rfl); (case hg => rfl); (case hr => first | (go_simp; done) | (go_simp; rfl)); (case hp => exact (Reps.one (show Kd.M Kd.string _ _ _ (⟨#[98]⟩ : ByteArray) [.string (⟨#[98]⟩ : ByteArray)] from rfl) (Reps.none _ _))); intro v193 w8 ho9 hb hg_ hnew_; clear hg_ hnew_; (first | rw [← Ny192.out] at ho9 | (simp only [Int.reduceToNat] at ho9; rw [← Ny192.out] at ho9)); have n0_ := Aside0.mk (Kd.R_elder' (by (with_reducible repeat (first | apply Kd.R_alloc | apply Kd.R_drewN | apply Kd.R_drew)); exact (Kd.R_mono (Kd.R_far (p := ⟨gb191, 2, none⟩) (Kd.R_far (p := ⟨gb191, 1, none⟩) (Kd.R_far (p := ⟨gb191, 0, none⟩) (Kd.R_types HO190.out BK191.out (by decide)) (fun _ hk => hk.2) (.int .i64 1)) (fun _ hk => hk.2) (.int .u64 (IntKind.u64.wrap (1 + (IntKind.u64.wrap (Int.tmod a0 60)))))) (fun _ hk => hk.2) (.slice Ao5 y188.length co5)) (fun _ h_ => h_.1))) (Kd.R_base ho9) hb); have n1_ := Aside0.mk (Kd.R_lower (Kd.R_new' ho9 (Kd.R_lt (by (with_reducible repeat (first | apply Kd.R_alloc | apply Kd.R_drewN | apply Kd.R_drew)); exact (Kd.R_mono (Kd.R_far (p := ⟨gb191, 2, none⟩) (Kd.R_far (p := ⟨gb191, 1, none⟩) (Kd.R_far (p := ⟨gb191, 0, none⟩) (Kd.R_types HO190.out BK191.out (by decide)) (fun _ hk => hk.2) (.int .i64 1)) (fun _ hk => hk.2) (.int .u64 (IntKind.u64.wrap (1 + (IntKind.u64.wrap (Int.tmod a0 60)))))) (fun _ hk => hk.2) (.slice Ao5 y188.length co5)) (fun _ h_ => h_.1))))) (below_size (by repeat (first | (with_reducible first | exact HB.out | apply below_alloc | apply pw_below_drewN | apply below_drew1 | refine below_set ?_ GE191.out) | exact HB.out)))); have n2_ := Aside0.mk (blk_below (g := gb191) (o := .cells #[.int .i64 1, .int .u64 (IntKind.u64.wrap (1 + (IntKind.u64.wrap (Int.tmod a0 60)))), .slice Ao5 y188.length co5] 26 (0, 0)) (by (with_reducible repeat (first | refine blk_drewN ?_ _ | refine blk_drew ?_ | refine blk_alloc ?_ _)); refine blk_put (cs := #[.int .i64 1, .int .u64 (IntKind.u64.wrap (1 + (IntKind.u64.wrap (Int.tmod a0 60)))), .slice none 0 0]) ?_ 2 _ rfl; (with_reducible repeat (first | refine blk_drewN ?_ _ | refine blk_drew ?_ | refine blk_alloc ?_ _)); refine blk_put (cs := #[.int .i64 1, .int .u64 0, .slice none 0 0]) ?_ 1 _ rfl; (with_reducible repeat (first | refine blk_drewN ?_ _ | refine blk_drew ?_ | refine blk_alloc ?_ _)); refine blk_put (cs := #[.int .i64 0, .int .u64 0, .slice none 0 0]) ?_ 0 _ rfl; (with_reducible repeat (first | refine blk_drewN ?_ _ | refine blk_drew ?_ | refine blk_alloc ?_ _)); exact BK191.out) hb); have n3_ := Aside0.mk (below_step (by repeat (first | (with_reducible first | exact HB.out | apply below_alloc | apply pw_below_drewN | apply below_drew1 | refine below_set ?_ GE191.out) | exact HB.out)) hb); clear HO190; clear BK191; clear HB; have HO190 := n0_; have HO194 := n1_; have BK191 := n2_; have HB := n3_; clear n0_ n1_ n2_ n3_; clear hb ho9; obtain ⟨Ao10, co10, eo10⟩ := Kd.R_slice HO194.out; subst eo10) | ((with_reducible refine gate_dst (N := 6) rfl ?_); (try (refine gate_guard (by rfl) ?_; dsimp only)); refine box_event ?hg (N := 6) ?hd (cs := #[.int .i64 0, .int .u64 0, .slice none 0 0]) (t := 26) ?hr ?_; (case hd => rfl); (case hg => rfl); (case hr => first | (go_simp; done) | (go_simp; rfl)); intro gb195 hg w11 hbox hb; have n0_ := Aside0.mk (Kd.R_below (by (with_reducible repeat (first | apply Kd.R_alloc | apply Kd.R_drewN | apply Kd.R_drew)); exact HO190.out) hb); have n1_ := Aside0.mk (Kd.R_below (by (with_reducible repeat (first | apply Kd.R_alloc | apply Kd.R_drewN | apply Kd.R_drew)); exact HO194.out) hb); have n2_ := Aside0.mk (blk_below (g := gb191) (o := .cells #[.int .i64 1, .int .u64 (IntKind.u64.wrap (1 + (IntKind.u64.wrap (Int.tmod a0 60)))), .slice Ao5 y188.length co5] 26 (0, 0)) (by (with_reducible repeat (first | refine blk_drewN ?_ _ | refine blk_drew ?_ | refine blk_alloc ?_ _)); exact BK191.out) hb); have n3_ := Aside0.mk (below_step (by repeat (first | (with_reducible first | exact HB.out | apply below_alloc | apply pw_below_drewN | apply below_drew1 | refine below_set ?_ GE191.out) | exact HB.out)) hb); have n4_ := Aside0.mk (hbox); have n5_ := Aside0.mk ((by rw [hg]; exact (below_size (by repeat (first | (with_reducible first | exact HB.out | apply below_alloc | apply pw_below_drewN | apply below_drew1 | refine below_set ?_ GE191.out) | exact HB.out))) : w.heap.size ≤ gb195)); have n6_ := Aside0.mk ((by rw [hg]; exact (below_size (by repeat (first | (with_reducible first | exact HB.out | apply below_alloc | apply pw_below_drewN | apply below_drew1 | refine below_set ?_ GE191.out) | exact HB.out))) : w.heap.size ≤ gb195)); have n7_ := Aside0.mk ((by rw [hg]; exact Nat.ne_of_lt (blk_lt (g := gb191) (o := .cells #[.int .i64 1, .int .u64 (IntKind.u64.wrap (1 + (IntKind.u64.wrap (Int.tmod a0 60)))), .slice Ao5 y188.length co5] 26 (0, 0)) (by (with_reducible repeat (first | refine blk_drewN ?_ _ | refine blk_drew ?_ | refine blk_alloc ?_ _)); exact BK191.out)) : gb191 ≠ gb195)); have n8_ := Aside0.mk ((by rw [hg]; exact Nat.ne_of_gt (blk_lt (g := gb191) (o := .cells #[.int .i64 1, .int .u64 (IntKind.u64.wrap (1 + (IntKind.u64.wrap (Int.tmod a0 60)))), .slice Ao5 y188.length co5] 26 (0, 0)) (by (with_reducible repeat (first | refine blk_drewN ?_ _ | refine blk_drew ?_ | refine blk_alloc ?_ _)); exact BK191.out)) : gb195 ≠ gb191)); clear HO190; clear HO194; clear BK191; clear HB; have HO190 := n0_; have HO194 := n1_; have BK191 := n2_; have HB := n3_; have BK195 := n4_; have GW195 := n5_; have GE195 := n6_; have NB191_195 := n7_; have NB195_191 := n8_; clear n0_ n1_ n2_ n3_ n4_ n5_ n6_ n7_ n8_; clear hb hbox hg; have hnb12 := NB195_191.out; have hnc12 := NB191_195.out; have hcz13_0 : w11.cell? ⟨gb195, 0, none⟩ = some (.int .i64 0) := (blk_cell BK195.out 0).trans rfl; have hcz13_1 : w11.cell? ⟨gb195, 1, none⟩ = some (.int .u64 0) := (blk_cell BK195.out 1).trans rfl; have hcz13_2 : w11.cell? ⟨gb195, 2, none⟩ = some (.slice none 0 0) := (blk_cell BK195.out 2).trans rfl; have hfz13_0 := blk_frozen BK195.out 0; have hfz13_1 := blk_frozen BK195.out 1; have hfz13_2 := blk_frozen BK195.out 2; have hcz14_0 : w11.cell? ⟨gb191, 0, none⟩ = some (.int .i64 1) := (blk_cell BK191.out 0).trans rfl; have hcz14_1 : w11.cell? ⟨gb191, 1, none⟩ = some (.int .u64 (IntKind.u64.wrap (1 + (IntKind.u64.wrap (Int.tmod a0 60))))) := (blk_cell BK191.out 1).trans rfl; have hcz14_2 : w11.cell? ⟨gb191, 2, none⟩ = some (.slice Ao5 y188.length co5) := (blk_cell BK191.out 2).trans rfl; have hfz14_0 := blk_frozen BK191.out 0; have hfz14_1 := blk_frozen BK191.out 1; have hfz14_2 := blk_frozen BK191.out 2))
  go_loopg [7, 29] k (fun kq v7 v29 w' => ∃ (x7_1 : Int) (x29_1 : Int), v7 = .int .u64 x7_1 ∧ v29 = .int .u64 x29_1 ∧ Aside0 (samphirelaw16_ReserveShare.l0 kq x7_1 (IntKind.u64.wrap ((IntKind.u64.wrap (1 + (IntKind.u64.wrap (Int.tmod a0 60)))) + (IntKind.u64.wrap (1 + (IntKind.u64.wrap (Int.tmod a1 60)))))) x29_1 1 (IntKind.u64.wrap (1 + (IntKind.u64.wrap (Int.tmod a0 60)))) y188 1 (IntKind.u64.wrap (1 + (IntKind.u64.wrap (Int.tmod a1 60)))) y192 = some r) ∧ Aside0 (kq ≤ k) ∧ Aside0 (Kd.R Kd.string 9 w' w.heap.size (fun k_ => some k_ ≠ ((.slice Ao10 y192.length co10) : Value).ownBlock) (.slice Ao5 y188.length co5) y188) ∧ Aside0 (Kd.R Kd.string 9 w' w.heap.size (fun k_ => some k_ ≠ ((.slice Ao5 y188.length co5) : Value).ownBlock) (.slice Ao10 y192.length co10) y192) ∧ Aside0 (w'.heap[gb191]? = some (.cells #[.int .i64 1, .int .u64 (IntKind.u64.wrap (1 + (IntKind.u64.wrap (Int.tmod a0 60)))), (.slice Ao5 y188.length co5)] 26 (0, 0))) ∧ Aside0 (w'.heap[gb195]? = some (.cells #[.int .i64 1, .int .u64 (IntKind.u64.wrap (1 + (IntKind.u64.wrap (Int.tmod a1 60)))), (.slice Ao10 y192.length co10)] 26 (0, 0))) ∧ Aside0 (Below w.heap.size w w'))
  case atStart => exact ⟨(0), (0), (by first | rfl | (simp; done) | (simp [*]; done)), (by first | rfl | (simp; done) | (simp [*]; done)), H', ⟨Nat.le_refl _⟩, ⟨by (with_reducible repeat (first | apply Kd.R_alloc | apply Kd.R_drewN | apply Kd.R_drew)); exact Kd.R_mono (Kd.R_far (p := ⟨gb195, 2, none⟩) (Kd.R_far (p := ⟨gb195, 1, none⟩) (Kd.R_far (p := ⟨gb195, 0, none⟩) (Kd.R_types HO190.out BK195.out (by decide)) (fun _ hk => hk.2) (.int .i64 1)) (fun _ hk => hk.2) (.int .u64 (IntKind.u64.wrap (1 + (IntKind.u64.wrap (Int.tmod a1 60)))))) (fun _ hk => hk.2) (.slice Ao10 y192.length co10)) (fun _ hk => hk.1.2)⟩, ⟨by (with_reducible repeat (first | apply Kd.R_alloc | apply Kd.R_drewN | apply Kd.R_drew)); exact Kd.R_mono (Kd.R_far (p := ⟨gb195, 2, none⟩) (Kd.R_far (p := ⟨gb195, 1, none⟩) (Kd.R_far (p := ⟨gb195, 0, none⟩) (Kd.R_types HO194.out BK195.out (by decide)) (fun _ hk => hk.2) (.int .i64 1)) (fun _ hk => hk.2) (.int .u64 (IntKind.u64.wrap (1 + (IntKind.u64.wrap (Int.tmod a1 60)))))) (fun _ hk => hk.2) (.slice Ao10 y192.length co10)) (fun _ hk => hk.1.2)⟩, ⟨by (with_reducible repeat (first | refine blk_drewN ?_ _ | refine blk_drew ?_ | refine blk_alloc ?_ _)); refine blk_far ?_ NB191_195.out _; (with_reducible repeat (first | refine blk_drewN ?_ _ | refine blk_drew ?_ | refine blk_alloc ?_ _)); refine blk_far ?_ NB191_195.out _; (with_reducible repeat (first | refine blk_drewN ?_ _ | refine blk_drew ?_ | refine blk_alloc ?_ _)); refine blk_far ?_ NB191_195.out _; (with_reducible repeat (first | refine blk_drewN ?_ _ | refine blk_drew ?_ | refine blk_alloc ?_ _)); exact BK191.out⟩, ⟨by (with_reducible repeat (first | refine blk_drewN ?_ _ | refine blk_drew ?_ | refine blk_alloc ?_ _)); refine blk_put (cs := #[.int .i64 1, .int .u64 (IntKind.u64.wrap (1 + (IntKind.u64.wrap (Int.tmod a1 60)))), .slice none 0 0]) ?_ 2 _ rfl; (with_reducible repeat (first | refine blk_drewN ?_ _ | refine blk_drew ?_ | refine blk_alloc ?_ _)); refine blk_put (cs := #[.int .i64 1, .int .u64 0, .slice none 0 0]) ?_ 1 _ rfl; (with_reducible repeat (first | refine blk_drewN ?_ _ | refine blk_drew ?_ | refine blk_alloc ?_ _)); refine blk_put (cs := #[.int .i64 0, .int .u64 0, .slice none 0 0]) ?_ 0 _ rfl; (with_reducible repeat (first | refine blk_drewN ?_ _ | refine blk_drew ?_ | refine blk_alloc ?_ _)); exact BK195.out⟩, ⟨by repeat (first | (with_reducible first | exact HB.out | apply below_alloc | apply pw_below_drewN | apply below_drew1 | refine below_set ?_ GE191.out | refine below_set ?_ GE195.out) | exact HB.out)⟩⟩
  case round =>
    clear H'
    try clear c1
    try clear p2
    try clear c8
    try clear c12
    try clear hcz13_0
    try clear hcz13_1
    try clear hcz13_2
    try clear hcz14_0
    try clear hcz14_1
    try clear hcz14_2
    try clear hcz7_0
    try clear hcz7_1
    try clear hcz7_2
    try clear hfz13_0
    try clear hfz13_1
    try clear hfz13_2
    try clear hfz14_0
    try clear hfz14_1
    try clear hfz14_2
    try clear hfz7_0
    try clear hfz7_1
    try clear hfz7_2
    obtain ⟨x7_1, x29_1, rfl, rfl, HA, HK1, HO_192002, HO_196002, BK191, BK195, HB⟩ := hrel
    cases gk with
    | zero => exact absurd HA.out (by simp [samphirelaw16_ReserveShare.l0])
    | succ k1 =>
      have H := HA.out
      clear HA
      simp only [samphirelaw16_ReserveShare.l0] at H
      by_cases c15 : x29_1 < (IntKind.u64.wrap ((IntKind.u64.wrap (1 + (IntKind.u64.wrap (Int.tmod a0 60)))) + (IntKind.u64.wrap (1 + (IntKind.u64.wrap (Int.tmod a1 60))))))
      · rw [if_pos c15] at H
        have c15b0 : decide (x29_1 < (IntKind.u64.wrap ((IntKind.u64.wrap (1 + (IntKind.u64.wrap (Int.tmod a0 60)))) + (IntKind.u64.wrap (1 + (IntKind.u64.wrap (Int.tmod a1 60))))))) = true := decide_eq_true c15
        clear c15
        obtain ⟨y197, hy197⟩ : ∃ y_ : List Int, y_ = (([x29_1] : List Int)) := ⟨_, rfl⟩
        replace H : ((reserve_Merge.f 1 (IntKind.u64.wrap (1 + (IntKind.u64.wrap (Int.tmod a0 60)))) y188 1 (IntKind.u64.wrap (1 + (IntKind.u64.wrap (Int.tmod a1 60)))) y192 y197 0).bind fun bt200 => (if bt200.2.2.2.2.2 = 0 then (if (bt200.2.2.1.length : Int) = 1 then (if bt200.2.2.2.2.1 = 1 then (samphirelaw16_ReserveShare.j1 k1 x7_1 (IntKind.u64.wrap ((IntKind.u64.wrap (1 + (IntKind.u64.wrap (Int.tmod a0 60)))) + (IntKind.u64.wrap (1 + (IntKind.u64.wrap (Int.tmod a1 60)))))) x29_1 (bt200.2.1 != (IntKind.u64.wrap ((IntKind.u64.wrap (1 + (IntKind.u64.wrap (Int.tmod a0 60)))) + (IntKind.u64.wrap (1 + (IntKind.u64.wrap (Int.tmod a1 60))))))) 1 (IntKind.u64.wrap (1 + (IntKind.u64.wrap (Int.tmod a0 60)))) y188 1 (IntKind.u64.wrap (1 + (IntKind.u64.wrap (Int.tmod a1 60)))) y192 bt200.1 bt200.2.1 bt200.2.2.1) else (samphirelaw16_ReserveShare.j1 k1 x7_1 (IntKind.u64.wrap ((IntKind.u64.wrap (1 + (IntKind.u64.wrap (Int.tmod a0 60)))) + (IntKind.u64.wrap (1 + (IntKind.u64.wrap (Int.tmod a1 60)))))) x29_1 true 1 (IntKind.u64.wrap (1 + (IntKind.u64.wrap (Int.tmod a0 60)))) y188 1 (IntKind.u64.wrap (1 + (IntKind.u64.wrap (Int.tmod a1 60)))) y192 bt200.1 bt200.2.1 bt200.2.2.1)) else (samphirelaw16_ReserveShare.j1 k1 x7_1 (IntKind.u64.wrap ((IntKind.u64.wrap (1 + (IntKind.u64.wrap (Int.tmod a0 60)))) + (IntKind.u64.wrap (1 + (IntKind.u64.wrap (Int.tmod a1 60)))))) x29_1 true 1 (IntKind.u64.wrap (1 + (IntKind.u64.wrap (Int.tmod a0 60)))) y188 1 (IntKind.u64.wrap (1 + (IntKind.u64.wrap (Int.tmod a1 60)))) y192 bt200.1 bt200.2.1 bt200.2.2.1)) else (samphirelaw16_ReserveShare.j1 k1 x7_1 (IntKind.u64.wrap ((IntKind.u64.wrap (1 + (IntKind.u64.wrap (Int.tmod a0 60)))) + (IntKind.u64.wrap (1 + (IntKind.u64.wrap (Int.tmod a1 60)))))) x29_1 true 1 (IntKind.u64.wrap (1 + (IntKind.u64.wrap (Int.tmod a0 60)))) y188 1 (IntKind.u64.wrap (1 + (IntKind.u64.wrap (Int.tmod a1 60)))) y192 bt200.1 bt200.2.1 bt200.2.2.1))) = some r := by first | (rw [hy197]; with_reducible exact H) | (have H2_ := (Option.bind_some _ _).symm.trans H; rw [hy197]; with_reducible exact H2_) | (have H2_ := (Option.bind_some _ _).symm.trans H; with_reducible exact H2_) | with_reducible exact H | (rw [hy197]; exact H) | exact H
        have Ny197 := Aside0.mk hy197
        clear hy197
        replace H := Option.bind_eq_some_iff.mp H
        obtain ⟨⟨t200, t201, t202, t205, t208, t209⟩, A160, H⟩ := H
        replace H : (if t209 = 0 then (if (t202.length : Int) = 1 then (if t208 = 1 then (samphirelaw16_ReserveShare.j1 k1 x7_1 (IntKind.u64.wrap ((IntKind.u64.wrap (1 + (IntKind.u64.wrap (Int.tmod a0 60)))) + (IntKind.u64.wrap (1 + (IntKind.u64.wrap (Int.tmod a1 60)))))) x29_1 (t201 != (IntKind.u64.wrap ((IntKind.u64.wrap (1 + (IntKind.u64.wrap (Int.tmod a0 60)))) + (IntKind.u64.wrap (1 + (IntKind.u64.wrap (Int.tmod a1 60))))))) 1 (IntKind.u64.wrap (1 + (IntKind.u64.wrap (Int.tmod a0 60)))) y188 1 (IntKind.u64.wrap (1 + (IntKind.u64.wrap (Int.tmod a1 60)))) y192 t200 t201 t202) else (samphirelaw16_ReserveShare.j1 k1 x7_1 (IntKind.u64.wrap ((IntKind.u64.wrap (1 + (IntKind.u64.wrap (Int.tmod a0 60)))) + (IntKind.u64.wrap (1 + (IntKind.u64.wrap (Int.tmod a1 60)))))) x29_1 true 1 (IntKind.u64.wrap (1 + (IntKind.u64.wrap (Int.tmod a0 60)))) y188 1 (IntKind.u64.wrap (1 + (IntKind.u64.wrap (Int.tmod a1 60)))) y192 t200 t201 t202)) else (samphirelaw16_ReserveShare.j1 k1 x7_1 (IntKind.u64.wrap ((IntKind.u64.wrap (1 + (IntKind.u64.wrap (Int.tmod a0 60)))) + (IntKind.u64.wrap (1 + (IntKind.u64.wrap (Int.tmod a1 60)))))) x29_1 true 1 (IntKind.u64.wrap (1 + (IntKind.u64.wrap (Int.tmod a0 60)))) y188 1 (IntKind.u64.wrap (1 + (IntKind.u64.wrap (Int.tmod a1 60)))) y192 t200 t201 t202)) else (samphirelaw16_ReserveShare.j1 k1 x7_1 (IntKind.u64.wrap ((IntKind.u64.wrap (1 + (IntKind.u64.wrap (Int.tmod a0 60)))) + (IntKind.u64.wrap (1 + (IntKind.u64.wrap (Int.tmod a1 60)))))) x29_1 true 1 (IntKind.u64.wrap (1 + (IntKind.u64.wrap (Int.tmod a0 60)))) y188 1 (IntKind.u64.wrap (1 + (IntKind.u64.wrap (Int.tmod a1 60)))) y192 t200 t201 t202)) = some r := H
        have A16 := Aside0.mk A160
        clear A160
        have HC17 := Aside0.mk H
        clear H
        have hnb18 := NB191_195.out
        have hnc18 := NB195_191.out
        have hcz19_0 : wr.cell? ⟨gb191, 0, none⟩ = some (.int .i64 1) := (blk_cell BK191.out 0).trans rfl
        have hcz19_1 : wr.cell? ⟨gb191, 1, none⟩ = some (.int .u64 (IntKind.u64.wrap (1 + (IntKind.u64.wrap (Int.tmod a0 60))))) := (blk_cell BK191.out 1).trans rfl
        have hcz19_2 : wr.cell? ⟨gb191, 2, none⟩ = some (.slice Ao5 y188.length co5) := (blk_cell BK191.out 2).trans rfl
        have hfz19_0 := blk_frozen BK191.out 0
        have hfz19_1 := blk_frozen BK191.out 1
        have hfz19_2 := blk_frozen BK191.out 2
        have hcz20_0 : wr.cell? ⟨gb195, 0, none⟩ = some (.int .i64 1) := (blk_cell BK195.out 0).trans rfl
        have hcz20_1 : wr.cell? ⟨gb195, 1, none⟩ = some (.int .u64 (IntKind.u64.wrap (1 + (IntKind.u64.wrap (Int.tmod a1 60))))) := (blk_cell BK195.out 1).trans rfl
        have hcz20_2 : wr.cell? ⟨gb195, 2, none⟩ = some (.slice Ao10 y192.length co10) := (blk_cell BK195.out 2).trans rfl
        have hfz20_0 := blk_frozen BK195.out 0
        have hfz20_1 := blk_frozen BK195.out 1
        have hfz20_2 := blk_frozen BK195.out 2
        go_upto_region 8 with (first | ((with_reducible refine gate_dst (N := 36) rfl ?_); (try (refine gate_guard (by rfl) ?_; dsimp only)); refine Kd.R_lit (Kd.int .u64) _ 23 ?hg (N := 36) ?hd (xs := ([x29_1] : List Int)) (inner := [.int .u64 x29_1]) (ok := fun _ => True) (okp := fun _ => True) ?hr ?hp (fun _ hk => hk) trivial (Below.refl _ _) (Nat.le_refl _) (by simp) ?_; (case hd => rfl); (case hg => rfl); (case hr => first | (go_simp; done) | (go_simp; rfl)); (case hp => exact (Reps.one (show Kd.M (Kd.int .u64) _ _ _ x29_1 [.int .u64 x29_1] from rfl) (Reps.none _ _))); intro v198 w21 ho22 hb hg_ hnew_; clear hg_ hnew_; (first | rw [← Ny197.out] at ho22 | (simp only [Int.reduceToNat] at ho22; rw [← Ny197.out] at ho22)); have n0_ := Aside0.mk (Kd.R_below (by (with_reducible repeat (first | apply Kd.R_alloc | apply Kd.R_drewN | apply Kd.R_drew)); exact HO_192002.out) hb); have n1_ := Aside0.mk (Kd.R_below (by (with_reducible repeat (first | apply Kd.R_alloc | apply Kd.R_drewN | apply Kd.R_drew)); exact HO_196002.out) hb); have n2_ := Aside0.mk (Kd.R_lower ho22 (below_size (by repeat (first | (with_reducible first | exact HB.out | apply below_alloc | apply pw_below_drewN | apply below_drew1 | refine below_set ?_ GE191.out | refine below_set ?_ GE195.out) | exact HB.out)))); have n3_ := Aside0.mk (blk_below (g := gb191) (o := .cells #[.int .i64 1, .int .u64 (IntKind.u64.wrap (1 + (IntKind.u64.wrap (Int.tmod a0 60)))), .slice Ao5 y188.length co5] 26 (0, 0)) (by (with_reducible repeat (first | refine blk_drewN ?_ _ | refine blk_drew ?_ | refine blk_alloc ?_ _)); exact BK191.out) hb); have n4_ := Aside0.mk (blk_below (g := gb195) (o := .cells #[.int .i64 1, .int .u64 (IntKind.u64.wrap (1 + (IntKind.u64.wrap (Int.tmod a1 60)))), .slice Ao10 y192.length co10] 26 (0, 0)) (by (with_reducible repeat (first | refine blk_drewN ?_ _ | refine blk_drew ?_ | refine blk_alloc ?_ _)); exact BK195.out) hb); have n5_ := Aside0.mk (below_step (by repeat (first | (with_reducible first | exact HB.out | apply below_alloc | apply pw_below_drewN | apply below_drew1 | refine below_set ?_ GE191.out | refine below_set ?_ GE195.out) | exact HB.out)) hb); clear HO_192002; clear HO_196002; clear BK191; clear BK195; clear HB; have HO_192002 := n0_; have HO_196002 := n1_; have HO199 := n2_; have BK191 := n3_; have BK195 := n4_; have HB := n5_; clear n0_ n1_ n2_ n3_ n4_ n5_; clear hb ho22; obtain ⟨Ao23, co23, eo23⟩ := Kd.R_slice HO199.out; subst eo23) | ((with_reducible refine gate_callee (f := 19) rfl ?_); refine goesL_ (some 38) rfl rfl Try.func19 (by kernel_rfl) rfl #[.agg #[.int .i64 1, .int .u64 (IntKind.u64.wrap (1 + (IntKind.u64.wrap (Int.tmod a0 60)))), .slice Ao5 y188.length co5], .agg #[.int .i64 1, .int .u64 (IntKind.u64.wrap (1 + (IntKind.u64.wrap (Int.tmod a1 60)))), .slice Ao10 y192.length co10], .agg #[.slice Ao23 y197.length co23, .int .i64 0]] rfl (by (try simp only [List.map_toArray, List.map_cons, List.map_nil]); first | done | rfl | (simp only [List.length_drop, List.length_take]; rfl)) ?_; (with_reducible refine (reserve_Merge.calls 1 (IntKind.u64.wrap (1 + (IntKind.u64.wrap (Int.tmod a0 60)))) _ _ y188 1 (IntKind.u64.wrap (1 + (IntKind.u64.wrap (Int.tmod a1 60)))) _ _ y192 (fun k_ => some k_ = (.slice Ao23 y197.length co23 : Value).ownBlock) _ _ y197 0 t200 t201 t202 t205 t208 t209 _ ?side1 ?side2 ?side3 ?side4 ?side5 A16.out).mono ?_); (case side1 => repeat (first | exact (Kd.R_reads' HO_192002.out).2.2 | (with_reducible refine Kd.C_alloc ?_ _) | (with_reducible refine Kd.C_drewN ?_ _) | (with_reducible refine Kd.C_drew ?_))); (case side2 => exact (Kd.R_reads' HO_192002.out).2.1); (case side3 => repeat (first | exact (Kd.R_reads' HO_196002.out).2.2 | (with_reducible refine Kd.C_alloc ?_ _) | (with_reducible refine Kd.C_drewN ?_ _) | (with_reducible refine Kd.C_drew ?_))); (case side4 => exact (Kd.R_reads' HO_196002.out).2.1); (case side5 => exact Kd.R_V (Kd.R_tight rfl (Kd.R_types (Kd.R_types (Kd.R_apart' (Kd.R_apart' (HO199.out) (Kd.R_typed HO_192002.out) (by decide)) (Kd.R_typed HO_196002.out) (by decide)) BK191.out (by decide)) BK195.out (by decide)))); rintro e w24 ⟨v203, v206, rfl, ho0, ho1, hb⟩; refine ⟨_, rfl, ?_⟩; have n0_ := Aside0.mk (Kd.R_elder' (by (with_reducible repeat (first | apply Kd.R_alloc | apply Kd.R_drewN | apply Kd.R_drew)); exact HO_192002.out) (Kd.R_base ho0) hb); have n1_ := Aside0.mk (Kd.R_elder' (by (with_reducible repeat (first | apply Kd.R_alloc | apply Kd.R_drewN | apply Kd.R_drew)); exact HO_196002.out) (Kd.R_base ho0) hb); have n2_ := Aside0.mk (Kd.R_below (by (with_reducible repeat (first | apply Kd.R_alloc | apply Kd.R_drewN | apply Kd.R_drew)); exact HO199.out) hb); have n3_ := Aside0.mk (Kd.R_lower (Kd.R_new' (Kd.R_new' (Kd.R_mono (ok' := fun k_ => True) ho0 (fun _ hk_ => trivial)) (Kd.R_lt (by (with_reducible repeat (first | apply Kd.R_alloc | apply Kd.R_drewN | apply Kd.R_drew)); exact HO_192002.out))) (Kd.R_lt (by (with_reducible repeat (first | apply Kd.R_alloc | apply Kd.R_drewN | apply Kd.R_drew)); exact HO_196002.out))) (below_size (by repeat (first | (with_reducible first | exact HB.out | apply below_alloc | apply pw_below_drewN | apply below_drew1 | refine below_set ?_ GE191.out | refine below_set ?_ GE195.out) | exact HB.out)))); have n4_ := Aside0.mk (Kd.V_lower (Kd.V_mono (ok' := fun k_ => some k_ ≠ (v203 : Value).ownBlock ∧ some k_ ≠ (.slice Ao5 y188.length co5 : Value).ownBlock ∧ some k_ ≠ (.slice Ao10 y192.length co10 : Value).ownBlock ∧ k_ ≠ gb191 ∧ k_ ≠ gb195) ho1 (fun k_ hk_ => ⟨hk_.2, Or.elim hk_.1 (fun hs_ => ((Kd.R_types (Kd.R_types (Kd.R_apart' (Kd.R_apart' (HO199.out) (Kd.R_typed HO_192002.out) (by decide)) (Kd.R_typed HO_196002.out) (by decide)) BK191.out (by decide)) BK195.out (by decide)).1 k_ hs_.symm).1.1.1.2) (fun hn_ => (Kd.fresh' (Kd.R_lt (by (with_reducible repeat (first | apply Kd.R_alloc | apply Kd.R_drewN | apply Kd.R_drew)); exact HO_192002.out)) k_ hn_)), Or.elim hk_.1 (fun hs_ => ((Kd.R_types (Kd.R_types (Kd.R_apart' (Kd.R_apart' (HO199.out) (Kd.R_typed HO_192002.out) (by decide)) (Kd.R_typed HO_196002.out) (by decide)) BK191.out (by decide)) BK195.out (by decide)).1 k_ hs_.symm).1.1.2) (fun hn_ => (Kd.fresh' (Kd.R_lt (by (with_reducible repeat (first | apply Kd.R_alloc | apply Kd.R_drewN | apply Kd.R_drew)); exact HO_196002.out)) k_ hn_)), Or.elim hk_.1 (fun hs_ => ((Kd.R_types (Kd.R_types (Kd.R_apart' (Kd.R_apart' (HO199.out) (Kd.R_typed HO_192002.out) (by decide)) (Kd.R_typed HO_196002.out) (by decide)) BK191.out (by decide)) BK195.out (by decide)).1 k_ hs_.symm).1.2) (fun hn_ => (Kd.freshB (g := gb191) (o := .cells #[.int .i64 1, .int .u64 (IntKind.u64.wrap (1 + (IntKind.u64.wrap (Int.tmod a0 60)))), .slice Ao5 y188.length co5] 26 (0, 0)) (by (with_reducible repeat (first | refine blk_drewN ?_ _ | refine blk_drew ?_ | refine blk_alloc ?_ _)); exact BK191.out) k_ hn_)), Or.elim hk_.1 (fun hs_ => ((Kd.R_types (Kd.R_types (Kd.R_apart' (Kd.R_apart' (HO199.out) (Kd.R_typed HO_192002.out) (by decide)) (Kd.R_typed HO_196002.out) (by decide)) BK191.out (by decide)) BK195.out (by decide)).1 k_ hs_.symm).2) (fun hn_ => (Kd.freshB (g := gb195) (o := .cells #[.int .i64 1, .int .u64 (IntKind.u64.wrap (1 + (IntKind.u64.wrap (Int.tmod a1 60)))), .slice Ao10 y192.length co10] 26 (0, 0)) (by (with_reducible repeat (first | refine blk_drewN ?_ _ | refine blk_drew ?_ | refine blk_alloc ?_ _)); exact BK195.out) k_ hn_))⟩)) (below_size (by repeat (first | (with_reducible first | exact HB.out | apply below_alloc | apply pw_below_drewN | apply below_drew1 | refine below_set ?_ GE191.out | refine below_set ?_ GE195.out) | exact HB.out)))); have n5_ := Aside0.mk (blk_below (g := gb191) (o := .cells #[.int .i64 1, .int .u64 (IntKind.u64.wrap (1 + (IntKind.u64.wrap (Int.tmod a0 60)))), .slice Ao5 y188.length co5] 26 (0, 0)) (by (with_reducible repeat (first | refine blk_drewN ?_ _ | refine blk_drew ?_ | refine blk_alloc ?_ _)); exact BK191.out) hb); have n6_ := Aside0.mk (blk_below (g := gb195) (o := .cells #[.int .i64 1, .int .u64 (IntKind.u64.wrap (1 + (IntKind.u64.wrap (Int.tmod a1 60)))), .slice Ao10 y192.length co10] 26 (0, 0)) (by (with_reducible repeat (first | refine blk_drewN ?_ _ | refine blk_drew ?_ | refine blk_alloc ?_ _)); exact BK195.out) hb); have n7_ := Aside0.mk (below_step (by repeat (first | (with_reducible first | exact HB.out | apply below_alloc | apply pw_below_drewN | apply below_drew1 | refine below_set ?_ GE191.out | refine below_set ?_ GE195.out) | exact HB.out)) hb); clear HO_192002; clear HO_196002; clear HO199; clear BK191; clear BK195; clear HB; have HO_192002 := n0_; have HO_196002 := n1_; have HO199 := n2_; have HO204 := n3_; have HO207 := n4_; have BK191 := n5_; have BK195 := n6_; have HB := n7_; clear n0_ n1_ n2_ n3_ n4_ n5_ n6_ n7_; (try clear hb); (try clear hb2); (try clear hk); (try clear hi); (try clear ho0); (try clear ho1)) | ((with_reducible refine gate_dst (N := 9) rfl ?_); (try (refine gate_guard (by rfl) ?_; dsimp only)); refine box_event ?hg (N := 9) ?hd (cs := #[.int .i64 0, .int .u64 0, .slice none 0 0]) (t := 26) ?hr ?_; (case hd => rfl); (case hg => rfl); (case hr => first | (go_simp; done) | (go_simp; rfl)); intro gb210 hg w25 hbox hb; have n0_ := Aside0.mk (Kd.R_below (by (with_reducible repeat (first | apply Kd.R_alloc | apply Kd.R_drewN | apply Kd.R_drew)); exact HO_192002.out) hb); have n1_ := Aside0.mk (Kd.R_below (by (with_reducible repeat (first | apply Kd.R_alloc | apply Kd.R_drewN | apply Kd.R_drew)); exact HO_196002.out) hb); have n2_ := Aside0.mk (Kd.R_below (by (with_reducible repeat (first | apply Kd.R_alloc | apply Kd.R_drewN | apply Kd.R_drew)); exact HO199.out) hb); have n3_ := Aside0.mk (Kd.R_below (by (with_reducible repeat (first | apply Kd.R_alloc | apply Kd.R_drewN | apply Kd.R_drew)); exact HO204.out) hb); have n4_ := Aside0.mk (Kd.V_below (Kd.V_elderB (by (with_reducible repeat (first | apply Kd.V_alloc | apply Kd.V_drewN | apply Kd.V_drew)); exact HO207.out) gb210 (Nat.le_of_eq hg.symm)) hb); have n5_ := Aside0.mk (blk_below (g := gb191) (o := .cells #[.int .i64 1, .int .u64 (IntKind.u64.wrap (1 + (IntKind.u64.wrap (Int.tmod a0 60)))), .slice Ao5 y188.length co5] 26 (0, 0)) (by (with_reducible repeat (first | refine blk_drewN ?_ _ | refine blk_drew ?_ | refine blk_alloc ?_ _)); exact BK191.out) hb); have n6_ := Aside0.mk (blk_below (g := gb195) (o := .cells #[.int .i64 1, .int .u64 (IntKind.u64.wrap (1 + (IntKind.u64.wrap (Int.tmod a1 60)))), .slice Ao10 y192.length co10] 26 (0, 0)) (by (with_reducible repeat (first | refine blk_drewN ?_ _ | refine blk_drew ?_ | refine blk_alloc ?_ _)); exact BK195.out) hb); have n7_ := Aside0.mk (below_step (by repeat (first | (with_reducible first | exact HB.out | apply below_alloc | apply pw_below_drewN | apply below_drew1 | refine below_set ?_ GE191.out | refine below_set ?_ GE195.out) | exact HB.out)) hb); have n8_ := Aside0.mk (hbox); have n9_ := Aside0.mk ((by rw [hg]; exact (below_size (by repeat (first | (with_reducible first | exact HB.out | apply below_alloc | apply pw_below_drewN | apply below_drew1 | refine below_set ?_ GE191.out | refine below_set ?_ GE195.out) | exact HB.out))) : w.heap.size ≤ gb210)); have n10_ := Aside0.mk ((by rw [hg]; exact (below_size (by repeat (first | (with_reducible first | exact HB.out | apply below_alloc | apply pw_below_drewN | apply below_drew1 | refine below_set ?_ GE191.out | refine below_set ?_ GE195.out) | exact HB.out))) : w.heap.size ≤ gb210)); have n11_ := Aside0.mk ((by rw [hg]; exact Nat.ne_of_lt (blk_lt (g := gb191) (o := .cells #[.int .i64 1, .int .u64 (IntKind.u64.wrap (1 + (IntKind.u64.wrap (Int.tmod a0 60)))), .slice Ao5 y188.length co5] 26 (0, 0)) (by (with_reducible repeat (first | refine blk_drewN ?_ _ | refine blk_drew ?_ | refine blk_alloc ?_ _)); exact BK191.out)) : gb191 ≠ gb210)); have n12_ := Aside0.mk ((by rw [hg]; exact Nat.ne_of_gt (blk_lt (g := gb191) (o := .cells #[.int .i64 1, .int .u64 (IntKind.u64.wrap (1 + (IntKind.u64.wrap (Int.tmod a0 60)))), .slice Ao5 y188.length co5] 26 (0, 0)) (by (with_reducible repeat (first | refine blk_drewN ?_ _ | refine blk_drew ?_ | refine blk_alloc ?_ _)); exact BK191.out)) : gb210 ≠ gb191)); have n13_ := Aside0.mk ((by rw [hg]; exact Nat.ne_of_lt (blk_lt (g := gb195) (o := .cells #[.int .i64 1, .int .u64 (IntKind.u64.wrap (1 + (IntKind.u64.wrap (Int.tmod a1 60)))), .slice Ao10 y192.length co10] 26 (0, 0)) (by (with_reducible repeat (first | refine blk_drewN ?_ _ | refine blk_drew ?_ | refine blk_alloc ?_ _)); exact BK195.out)) : gb195 ≠ gb210)); have n14_ := Aside0.mk ((by rw [hg]; exact Nat.ne_of_gt (blk_lt (g := gb195) (o := .cells #[.int .i64 1, .int .u64 (IntKind.u64.wrap (1 + (IntKind.u64.wrap (Int.tmod a1 60)))), .slice Ao10 y192.length co10] 26 (0, 0)) (by (with_reducible repeat (first | refine blk_drewN ?_ _ | refine blk_drew ?_ | refine blk_alloc ?_ _)); exact BK195.out)) : gb210 ≠ gb195)); clear HO_192002; clear HO_196002; clear HO199; clear HO204; clear HO207; clear BK191; clear BK195; clear HB; have HO_192002 := n0_; have HO_196002 := n1_; have HO199 := n2_; have HO204 := n3_; have HO207 := n4_; have BK191 := n5_; have BK195 := n6_; have HB := n7_; have BK210 := n8_; have GW210 := n9_; have GE210 := n10_; have NB191_210 := n11_; have NB210_191 := n12_; have NB195_210 := n13_; have NB210_195 := n14_; clear n0_ n1_ n2_ n3_ n4_ n5_ n6_ n7_ n8_ n9_ n10_ n11_ n12_ n13_ n14_; clear hb hbox hg) | ((with_reducible refine gate_dst (N := 10) rfl ?_); (try (refine gate_guard (by rfl) ?_; dsimp only)); refine box_event ?hg (N := 10) ?hd (cs := #[.slice none 0 0, .int .i64 0]) (t := 32) ?hr ?_; (case hd => rfl); (case hg => rfl); (case hr => first | (go_simp; done) | (go_simp; rfl)); intro gb211 hg w26 hbox hb; have n0_ := Aside0.mk (Kd.R_below (by (with_reducible repeat (first | apply Kd.R_alloc | apply Kd.R_drewN | apply Kd.R_drew)); exact HO_192002.out) hb); have n1_ := Aside0.mk (Kd.R_below (by (with_reducible repeat (first | apply Kd.R_alloc | apply Kd.R_drewN | apply Kd.R_drew)); exact HO_196002.out) hb); have n2_ := Aside0.mk (Kd.R_below (by (with_reducible repeat (first | apply Kd.R_alloc | apply Kd.R_drewN | apply Kd.R_drew)); exact HO199.out) hb); have n3_ := Aside0.mk (Kd.R_below (by (with_reducible repeat (first | apply Kd.R_alloc | apply Kd.R_drewN | apply Kd.R_drew)); exact HO204.out) hb); have n4_ := Aside0.mk (Kd.V_below (Kd.V_elderB (by (with_reducible repeat (first | apply Kd.V_alloc | apply Kd.V_drewN | apply Kd.V_drew)); exact HO207.out) gb211 (Nat.le_of_eq hg.symm)) hb); have n5_ := Aside0.mk (blk_below (g := gb191) (o := .cells #[.int .i64 1, .int .u64 (IntKind.u64.wrap (1 + (IntKind.u64.wrap (Int.tmod a0 60)))), .slice Ao5 y188.length co5] 26 (0, 0)) (by (with_reducible repeat (first | refine blk_drewN ?_ _ | refine blk_drew ?_ | refine blk_alloc ?_ _)); exact BK191.out) hb); have n6_ := Aside0.mk (blk_below (g := gb195) (o := .cells #[.int .i64 1, .int .u64 (IntKind.u64.wrap (1 + (IntKind.u64.wrap (Int.tmod a1 60)))), .slice Ao10 y192.length co10] 26 (0, 0)) (by (with_reducible repeat (first | refine blk_drewN ?_ _ | refine blk_drew ?_ | refine blk_alloc ?_ _)); exact BK195.out) hb); have n7_ := Aside0.mk (blk_below (g := gb210) (o := .cells #[.int .i64 0, .int .u64 0, .slice none 0 0] 26 (0, 0)) (by (with_reducible repeat (first | refine blk_drewN ?_ _ | refine blk_drew ?_ | refine blk_alloc ?_ _)); exact BK210.out) hb); have n8_ := Aside0.mk (below_step (by repeat (first | (with_reducible first | exact HB.out | apply below_alloc | apply pw_below_drewN | apply below_drew1 | refine below_set ?_ GE191.out | refine below_set ?_ GE195.out | refine below_set ?_ GE210.out) | exact HB.out)) hb); have n9_ := Aside0.mk (hbox); have n10_ := Aside0.mk ((by rw [hg]; exact (below_size (by repeat (first | (with_reducible first | exact HB.out | apply below_alloc | apply pw_below_drewN | apply below_drew1 | refine below_set ?_ GE191.out | refine below_set ?_ GE195.out | refine below_set ?_ GE210.out) | exact HB.out))) : w.heap.size ≤ gb211)); have n11_ := Aside0.mk ((by rw [hg]; exact (below_size (by repeat (first | (with_reducible first | exact HB.out | apply below_alloc | apply pw_below_drewN | apply below_drew1 | refine below_set ?_ GE191.out | refine below_set ?_ GE195.out | refine below_set ?_ GE210.out) | exact HB.out))) : w.heap.size ≤ gb211)); have n12_ := Aside0.mk ((by rw [hg]; exact Nat.ne_of_lt (blk_lt (g := gb191) (o := .cells #[.int .i64 1, .int .u64 (IntKind.u64.wrap (1 + (IntKind.u64.wrap (Int.tmod a0 60)))), .slice Ao5 y188.length co5] 26 (0, 0)) (by (with_reducible repeat (first | refine blk_drewN ?_ _ | refine blk_drew ?_ | refine blk_alloc ?_ _)); exact BK191.out)) : gb191 ≠ gb211)); have n13_ := Aside0.mk ((by rw [hg]; exact Nat.ne_of_gt (blk_lt (g := gb191) (o := .cells #[.int .i64 1, .int .u64 (IntKind.u64.wrap (1 + (IntKind.u64.wrap (Int.tmod a0 60)))), .slice Ao5 y188.length co5] 26 (0, 0)) (by (with_reducible repeat (first | refine blk_drewN ?_ _ | refine blk_drew ?_ | refine blk_alloc ?_ _)); exact BK191.out)) : gb211 ≠ gb191)); have n14_ := Aside0.mk ((by rw [hg]; exact Nat.ne_of_lt (blk_lt (g := gb195) (o := .cells #[.int .i64 1, .int .u64 (IntKind.u64.wrap (1 + (IntKind.u64.wrap (Int.tmod a1 60)))), .slice Ao10 y192.length co10] 26 (0, 0)) (by (with_reducible repeat (first | refine blk_drewN ?_ _ | refine blk_drew ?_ | refine blk_alloc ?_ _)); exact BK195.out)) : gb195 ≠ gb211)); have n15_ := Aside0.mk ((by rw [hg]; exact Nat.ne_of_gt (blk_lt (g := gb195) (o := .cells #[.int .i64 1, .int .u64 (IntKind.u64.wrap (1 + (IntKind.u64.wrap (Int.tmod a1 60)))), .slice Ao10 y192.length co10] 26 (0, 0)) (by (with_reducible repeat (first | refine blk_drewN ?_ _ | refine blk_drew ?_ | refine blk_alloc ?_ _)); exact BK195.out)) : gb211 ≠ gb195)); have n16_ := Aside0.mk ((by rw [hg]; exact Nat.ne_of_lt (blk_lt (g := gb210) (o := .cells #[.int .i64 0, .int .u64 0, .slice none 0 0] 26 (0, 0)) (by (with_reducible repeat (first | refine blk_drewN ?_ _ | refine blk_drew ?_ | refine blk_alloc ?_ _)); exact BK210.out)) : gb210 ≠ gb211)); have n17_ := Aside0.mk ((by rw [hg]; exact Nat.ne_of_gt (blk_lt (g := gb210) (o := .cells #[.int .i64 0, .int .u64 0, .slice none 0 0] 26 (0, 0)) (by (with_reducible repeat (first | refine blk_drewN ?_ _ | refine blk_drew ?_ | refine blk_alloc ?_ _)); exact BK210.out)) : gb211 ≠ gb210)); clear HO_192002; clear HO_196002; clear HO199; clear HO204; clear HO207; clear BK191; clear BK195; clear BK210; clear HB; have HO_192002 := n0_; have HO_196002 := n1_; have HO199 := n2_; have HO204 := n3_; have HO207 := n4_; have BK191 := n5_; have BK195 := n6_; have BK210 := n7_; have HB := n8_; have BK211 := n9_; have GW211 := n10_; have GE211 := n11_; have NB191_211 := n12_; have NB211_191 := n13_; have NB195_211 := n14_; have NB211_195 := n15_; have NB210_211 := n16_; have NB211_210 := n17_; clear n0_ n1_ n2_ n3_ n4_ n5_ n6_ n7_ n8_ n9_ n10_ n11_ n12_ n13_ n14_ n15_ n16_ n17_; clear hb hbox hg; have hnb27 := NB210_191.out; have hnc27 := NB191_210.out; have hnb28 := NB210_195.out; have hnc28 := NB195_210.out; have hnb29 := NB210_211.out; have hnc29 := NB211_210.out; have hcz30_0 : w26.cell? ⟨gb210, 0, none⟩ = some (.int .i64 0) := (blk_cell BK210.out 0).trans rfl; have hcz30_1 : w26.cell? ⟨gb210, 1, none⟩ = some (.int .u64 0) := (blk_cell BK210.out 1).trans rfl; have hcz30_2 : w26.cell? ⟨gb210, 2, none⟩ = some (.slice none 0 0) := (blk_cell BK210.out 2).trans rfl; have hfz30_0 := blk_frozen BK210.out 0; have hfz30_1 := blk_frozen BK210.out 1; have hfz30_2 := blk_frozen BK210.out 2; obtain ⟨Ao31, co31, eo31⟩ := Kd.R_slice HO204.out; subst eo31; obtain ⟨Ao32, co32, eo32⟩ := Kd.V_slice HO207.out; subst eo32; have hnb33 := NB211_191.out; have hnc33 := NB191_211.out; have hnb34 := NB211_195.out; have hnc34 := NB195_211.out; have hcz35_0 : w26.cell? ⟨gb211, 0, none⟩ = some (.slice none 0 0) := (blk_cell BK211.out 0).trans rfl; have hcz35_1 : w26.cell? ⟨gb211, 1, none⟩ = some (.int .i64 0) := (blk_cell BK211.out 1).trans rfl; have hfz35_0 := blk_frozen BK211.out 0; have hfz35_1 := blk_frozen BK211.out 1))
        (try simp only [Act.put, List.setIfInBounds_toArray, List.set_cons_zero, List.set_cons_succ])
        go_cut [64] (fun v64 wc => ∃ (kq : Nat) (x64_16 : Bool), v64 = .bool x64_16 ∧ Aside0 (samphirelaw16_ReserveShare.j1 kq x7_1 (IntKind.u64.wrap ((IntKind.u64.wrap (1 + (IntKind.u64.wrap (Int.tmod a0 60)))) + (IntKind.u64.wrap (1 + (IntKind.u64.wrap (Int.tmod a1 60)))))) x29_1 x64_16 1 (IntKind.u64.wrap (1 + (IntKind.u64.wrap (Int.tmod a0 60)))) y188 1 (IntKind.u64.wrap (1 + (IntKind.u64.wrap (Int.tmod a1 60)))) y192 t200 t201 t202 = some r) ∧ Aside0 (kq ≤ k1) ∧ Aside0 (Kd.R Kd.string 9 wc w.heap.size (fun k_ => some k_ ≠ ((.slice Ao10 y192.length co10) : Value).ownBlock ∧ some k_ ≠ ((.slice Ao31 t202.length co31) : Value).ownBlock) (.slice Ao5 y188.length co5) y188) ∧ Aside0 (Kd.R Kd.string 9 wc w.heap.size (fun k_ => some k_ ≠ ((.slice Ao5 y188.length co5) : Value).ownBlock ∧ some k_ ≠ ((.slice Ao31 t202.length co31) : Value).ownBlock) (.slice Ao10 y192.length co10) y192) ∧ Aside0 (Kd.R Kd.string 9 wc w.heap.size (fun k_ => some k_ ≠ ((.slice Ao5 y188.length co5) : Value).ownBlock ∧ some k_ ≠ ((.slice Ao10 y192.length co10) : Value).ownBlock) (.slice Ao31 t202.length co31) t202) ∧ Aside0 (Kd.V (Kd.int .u64) 23 wc w.heap.size (fun k_ => some k_ ≠ ((.slice Ao5 y188.length co5) : Value).ownBlock ∧ some k_ ≠ ((.slice Ao10 y192.length co10) : Value).ownBlock ∧ some k_ ≠ ((.slice Ao31 t202.length co31) : Value).ownBlock ∧ k_ ≠ gb191 ∧ k_ ≠ gb195 ∧ k_ ≠ gb210 ∧ k_ ≠ gb211) (.slice Ao32 t205.length co32) t205) ∧ Aside0 (wc.heap[gb191]? = some (.cells #[.int .i64 1, .int .u64 (IntKind.u64.wrap (1 + (IntKind.u64.wrap (Int.tmod a0 60)))), (.slice Ao5 y188.length co5)] 26 (0, 0))) ∧ Aside0 (wc.heap[gb195]? = some (.cells #[.int .i64 1, .int .u64 (IntKind.u64.wrap (1 + (IntKind.u64.wrap (Int.tmod a1 60)))), (.slice Ao10 y192.length co10)] 26 (0, 0))) ∧ Aside0 (wc.heap[gb210]? = some (.cells #[.int .i64 t200, .int .u64 t201, (.slice Ao31 t202.length co31)] 26 (0, 0))) ∧ Aside0 (wc.heap[gb211]? = some (.cells #[(.slice Ao32 t205.length co32), .int .i64 t208] 32 (0, 0))) ∧ Aside0 (Below w.heap.size w wc))
        case first =>
          have H := HC17.out
          clear HC17
          by_cases c36 : t209 = 0
          · rw [if_pos c36] at H
            have c36b0 : (t209 == 0) = true := beq_iff_eq.mpr c36
            have c36b1 : (t209 != 0) = false := bne_eq_false_iff_eq.mpr c36
            clear c36
            (first | rw [c36b0] | (simp only [i64_w, i32_w]; rw [c36b0]) | skip)
            by_cases c37 : (t202.length : Int) = 1
            · rw [if_pos c37] at H
              have c37b0 : ((t202.length : Int) == 1) = true := beq_iff_eq.mpr c37
              have c37b1 : ((t202.length : Int) != 1) = false := bne_eq_false_iff_eq.mpr c37
              clear c37
              by_cases c38 : t208 = 1
              · rw [if_pos c38] at H
                have c38b0 : (t208 == 1) = true := beq_iff_eq.mpr c38
                have c38b1 : (t208 != 1) = false := bne_eq_false_iff_eq.mpr c38
                clear c38
                have H' := Aside0.mk H
                clear H
                have hnb39 := NB210_191.out
                have hnc39 := NB191_210.out
                have hnb40 := NB210_195.out
                have hnc40 := NB195_210.out
                have hnb41 := NB210_211.out
                have hnc41 := NB211_210.out
                have hcz42_0 : w26.cell? ⟨gb210, 0, none⟩ = some (.int .i64 0) := (blk_cell BK210.out 0).trans rfl
                have hcz42_1 : w26.cell? ⟨gb210, 1, none⟩ = some (.int .u64 0) := (blk_cell BK210.out 1).trans rfl
                have hcz42_2 : w26.cell? ⟨gb210, 2, none⟩ = some (.slice none 0 0) := (blk_cell BK210.out 2).trans rfl
                have hfz42_0 := blk_frozen BK210.out 0
                have hfz42_1 := blk_frozen BK210.out 1
                have hfz42_2 := blk_frozen BK210.out 2
                have hnb43 := NB211_191.out
                have hnc43 := NB191_211.out
                have hnb44 := NB211_195.out
                have hnc44 := NB195_211.out
                have hcz45_0 : w26.cell? ⟨gb211, 0, none⟩ = some (.slice none 0 0) := (blk_cell BK211.out 0).trans rfl
                have hcz45_1 : w26.cell? ⟨gb211, 1, none⟩ = some (.int .i64 0) := (blk_cell BK211.out 1).trans rfl
                have hfz45_0 := blk_frozen BK211.out 0
                have hfz45_1 := blk_frozen BK211.out 1
                have hnb46 := NB191_195.out
                have hnc46 := NB195_191.out
                have hcz47_0 : w26.cell? ⟨gb191, 0, none⟩ = some (.int .i64 1) := (blk_cell BK191.out 0).trans rfl
                have hcz47_1 : w26.cell? ⟨gb191, 1, none⟩ = some (.int .u64 (IntKind.u64.wrap (1 + (IntKind.u64.wrap (Int.tmod a0 60))))) := (blk_cell BK191.out 1).trans rfl
                have hcz47_2 : w26.cell? ⟨gb191, 2, none⟩ = some (.slice Ao5 y188.length co5) := (blk_cell BK191.out 2).trans rfl
                have hfz47_0 := blk_frozen BK191.out 0
                have hfz47_1 := blk_frozen BK191.out 1
                have hfz47_2 := blk_frozen BK191.out 2
                have hcz48_0 : w26.cell? ⟨gb195, 0, none⟩ = some (.int .i64 1) := (blk_cell BK195.out 0).trans rfl
                have hcz48_1 : w26.cell? ⟨gb195, 1, none⟩ = some (.int .u64 (IntKind.u64.wrap (1 + (IntKind.u64.wrap (Int.tmod a1 60))))) := (blk_cell BK195.out 1).trans rfl
                have hcz48_2 : w26.cell? ⟨gb195, 2, none⟩ = some (.slice Ao10 y192.length co10) := (blk_cell BK195.out 2).trans rfl
                have hfz48_0 := blk_frozen BK195.out 0
                have hfz48_1 := blk_frozen BK195.out 1
                have hfz48_2 := blk_frozen BK195.out 2
                go_wp2
                go_meet
                case rel => exact ⟨_, ((t201 != (IntKind.u64.wrap ((IntKind.u64.wrap (1 + (IntKind.u64.wrap (Int.tmod a0 60)))) + (IntKind.u64.wrap (1 + (IntKind.u64.wrap (Int.tmod a1 60)))))))), (by first | rfl | (simp; done) | (simp [*]; done)), H', ⟨by have := HK1.out; first | omega | exact Nat.le_refl _⟩, ⟨by (with_reducible repeat (first | apply Kd.R_alloc | apply Kd.R_drewN | apply Kd.R_drew)); exact Kd.R_mono (Kd.R_far (p := ⟨gb211, 1, none⟩) (Kd.R_far (p := ⟨gb211, 0, none⟩) (Kd.R_far (p := ⟨gb210, 2, none⟩) (Kd.R_far (p := ⟨gb210, 1, none⟩) (Kd.R_far (p := ⟨gb210, 0, none⟩) (Kd.R_types (Kd.R_types HO_192002.out BK210.out (by decide)) BK211.out (by decide)) (fun _ hk => hk.1.2) (.int .i64 t200)) (fun _ hk => hk.1.2) (.int .u64 t201)) (fun _ hk => hk.1.2) (.slice Ao31 t202.length co31)) (fun _ hk => hk.2) (.slice Ao32 t205.length co32)) (fun _ hk => hk.2) (.int .i64 t208)) (fun _ hk => ⟨hk.1.1.1, hk.1.1.2⟩)⟩, ⟨by (with_reducible repeat (first | apply Kd.R_alloc | apply Kd.R_drewN | apply Kd.R_drew)); exact Kd.R_mono (Kd.R_far (p := ⟨gb211, 1, none⟩) (Kd.R_far (p := ⟨gb211, 0, none⟩) (Kd.R_far (p := ⟨gb210, 2, none⟩) (Kd.R_far (p := ⟨gb210, 1, none⟩) (Kd.R_far (p := ⟨gb210, 0, none⟩) (Kd.R_types (Kd.R_types HO_196002.out BK210.out (by decide)) BK211.out (by decide)) (fun _ hk => hk.1.2) (.int .i64 t200)) (fun _ hk => hk.1.2) (.int .u64 t201)) (fun _ hk => hk.1.2) (.slice Ao31 t202.length co31)) (fun _ hk => hk.2) (.slice Ao32 t205.length co32)) (fun _ hk => hk.2) (.int .i64 t208)) (fun _ hk => ⟨hk.1.1.1, hk.1.1.2⟩)⟩, ⟨by (with_reducible repeat (first | apply Kd.R_alloc | apply Kd.R_drewN | apply Kd.R_drew)); exact Kd.R_mono (Kd.R_far (p := ⟨gb211, 1, none⟩) (Kd.R_far (p := ⟨gb211, 0, none⟩) (Kd.R_far (p := ⟨gb210, 2, none⟩) (Kd.R_far (p := ⟨gb210, 1, none⟩) (Kd.R_far (p := ⟨gb210, 0, none⟩) (Kd.R_types (Kd.R_types HO204.out BK210.out (by decide)) BK211.out (by decide)) (fun _ hk => hk.1.2) (.int .i64 t200)) (fun _ hk => hk.1.2) (.int .u64 t201)) (fun _ hk => hk.1.2) (.slice Ao31 t202.length co31)) (fun _ hk => hk.2) (.slice Ao32 t205.length co32)) (fun _ hk => hk.2) (.int .i64 t208)) (fun _ hk => ⟨hk.1.1.1.2, hk.1.1.2⟩)⟩, ⟨by (with_reducible repeat (first | apply Kd.V_alloc | apply Kd.V_drewN | apply Kd.V_drew)); exact Kd.V_mono (Kd.V_far (p := ⟨gb211, 1, none⟩) (Kd.V_far (p := ⟨gb211, 0, none⟩) (Kd.V_far (p := ⟨gb210, 2, none⟩) (Kd.V_far (p := ⟨gb210, 1, none⟩) (Kd.V_far (p := ⟨gb210, 0, none⟩) (Kd.V_mono (Kd.V_mono HO207.out (fun k_ hk => (⟨hk, hk.1.2⟩ : _ ∧ k_ ≠ gb210))) (fun k_ hk => (⟨hk, hk.1.2⟩ : _ ∧ k_ ≠ gb211))) (fun _ hk => hk.1.2) (.int .i64 t200)) (fun _ hk => hk.1.2) (.int .u64 t201)) (fun _ hk => hk.1.2) (.slice Ao31 t202.length co31)) (fun _ hk => hk.2) (.slice Ao32 t205.length co32)) (fun _ hk => hk.2) (.int .i64 t208)) (fun _ hk => ⟨hk.1.1.1.1.2.1, ⟨hk.1.1.1.1.2.2.1, ⟨hk.1.1.1.1.1, ⟨hk.1.1.1.1.2.2.2.1, ⟨hk.1.1.1.1.2.2.2.2, ⟨hk.1.1.1.2, hk.1.1.2⟩⟩⟩⟩⟩⟩)⟩, ⟨by (with_reducible repeat (first | refine blk_drewN ?_ _ | refine blk_drew ?_ | refine blk_alloc ?_ _)); refine blk_far ?_ NB191_211.out _; (with_reducible repeat (first | refine blk_drewN ?_ _ | refine blk_drew ?_ | refine blk_alloc ?_ _)); refine blk_far ?_ NB191_211.out _; (with_reducible repeat (first | refine blk_drewN ?_ _ | refine blk_drew ?_ | refine blk_alloc ?_ _)); refine blk_far ?_ NB191_210.out _; (with_reducible repeat (first | refine blk_drewN ?_ _ | refine blk_drew ?_ | refine blk_alloc ?_ _)); refine blk_far ?_ NB191_210.out _; (with_reducible repeat (first | refine blk_drewN ?_ _ | refine blk_drew ?_ | refine blk_alloc ?_ _)); refine blk_far ?_ NB191_210.out _; (with_reducible repeat (first | refine blk_drewN ?_ _ | refine blk_drew ?_ | refine blk_alloc ?_ _)); exact BK191.out⟩, ⟨by (with_reducible repeat (first | refine blk_drewN ?_ _ | refine blk_drew ?_ | refine blk_alloc ?_ _)); refine blk_far ?_ NB195_211.out _; (with_reducible repeat (first | refine blk_drewN ?_ _ | refine blk_drew ?_ | refine blk_alloc ?_ _)); refine blk_far ?_ NB195_211.out _; (with_reducible repeat (first | refine blk_drewN ?_ _ | refine blk_drew ?_ | refine blk_alloc ?_ _)); refine blk_far ?_ NB195_210.out _; (with_reducible repeat (first | refine blk_drewN ?_ _ | refine blk_drew ?_ | refine blk_alloc ?_ _)); refine blk_far ?_ NB195_210.out _; (with_reducible repeat (first | refine blk_drewN ?_ _ | refine blk_drew ?_ | refine blk_alloc ?_ _)); refine blk_far ?_ NB195_210.out _; (with_reducible repeat (first | refine blk_drewN ?_ _ | refine blk_drew ?_ | refine blk_alloc ?_ _)); exact BK195.out⟩, ⟨by (with_reducible repeat (first | refine blk_drewN ?_ _ | refine blk_drew ?_ | refine blk_alloc ?_ _)); refine blk_far ?_ NB210_211.out _; (with_reducible repeat (first | refine blk_drewN ?_ _ | refine blk_drew ?_ | refine blk_alloc ?_ _)); refine blk_far ?_ NB210_211.out _; (with_reducible repeat (first | refine blk_drewN ?_ _ | refine blk_drew ?_ | refine blk_alloc ?_ _)); refine blk_put (cs := #[.int .i64 t200, .int .u64 t201, .slice none 0 0]) ?_ 2 _ rfl; (with_reducible repeat (first | refine blk_drewN ?_ _ | refine blk_drew ?_ | refine blk_alloc ?_ _)); refine blk_put (cs := #[.int .i64 t200, .int .u64 0, .slice none 0 0]) ?_ 1 _ rfl; (with_reducible repeat (first | refine blk_drewN ?_ _ | refine blk_drew ?_ | refine blk_alloc ?_ _)); refine blk_put (cs := #[.int .i64 0, .int .u64 0, .slice none 0 0]) ?_ 0 _ rfl; (with_reducible repeat (first | refine blk_drewN ?_ _ | refine blk_drew ?_ | refine blk_alloc ?_ _)); exact BK210.out⟩, ⟨by (with_reducible repeat (first | refine blk_drewN ?_ _ | refine blk_drew ?_ | refine blk_alloc ?_ _)); refine blk_put (cs := #[.slice Ao32 t205.length co32, .int .i64 0]) ?_ 1 _ rfl; (with_reducible repeat (first | refine blk_drewN ?_ _ | refine blk_drew ?_ | refine blk_alloc ?_ _)); refine blk_put (cs := #[.slice none 0 0, .int .i64 0]) ?_ 0 _ rfl; (with_reducible repeat (first | refine blk_drewN ?_ _ | refine blk_drew ?_ | refine blk_alloc ?_ _)); refine blk_far ?_ NB211_210.out _; (with_reducible repeat (first | refine blk_drewN ?_ _ | refine blk_drew ?_ | refine blk_alloc ?_ _)); refine blk_far ?_ NB211_210.out _; (with_reducible repeat (first | refine blk_drewN ?_ _ | refine blk_drew ?_ | refine blk_alloc ?_ _)); refine blk_far ?_ NB211_210.out _; (with_reducible repeat (first | refine blk_drewN ?_ _ | refine blk_drew ?_ | refine blk_alloc ?_ _)); exact BK211.out⟩, ⟨by repeat (first | (with_reducible first | exact HB.out | apply below_alloc | apply pw_below_drewN | apply below_drew1 | refine below_set ?_ GE191.out | refine below_set ?_ GE195.out | refine below_set ?_ GE210.out | refine below_set ?_ GE211.out) | exact HB.out)⟩⟩
              · rw [if_neg c38] at H
                have c38b0 : (t208 == 1) = false := beq_eq_false_iff_ne.mpr c38
                have c38b1 : (t208 != 1) = true := bne_iff_ne.mpr c38
                have H' := Aside0.mk H
                clear H
                have hnb49 := NB210_191.out
                have hnc49 := NB191_210.out
                have hnb50 := NB210_195.out
                have hnc50 := NB195_210.out
                have hnb51 := NB210_211.out
                have hnc51 := NB211_210.out
                have hcz52_0 : w26.cell? ⟨gb210, 0, none⟩ = some (.int .i64 0) := (blk_cell BK210.out 0).trans rfl
                have hcz52_1 : w26.cell? ⟨gb210, 1, none⟩ = some (.int .u64 0) := (blk_cell BK210.out 1).trans rfl
                have hcz52_2 : w26.cell? ⟨gb210, 2, none⟩ = some (.slice none 0 0) := (blk_cell BK210.out 2).trans rfl
                have hfz52_0 := blk_frozen BK210.out 0
                have hfz52_1 := blk_frozen BK210.out 1
                have hfz52_2 := blk_frozen BK210.out 2
                have hnb53 := NB211_191.out
                have hnc53 := NB191_211.out
                have hnb54 := NB211_195.out
                have hnc54 := NB195_211.out
                have hcz55_0 : w26.cell? ⟨gb211, 0, none⟩ = some (.slice none 0 0) := (blk_cell BK211.out 0).trans rfl
                have hcz55_1 : w26.cell? ⟨gb211, 1, none⟩ = some (.int .i64 0) := (blk_cell BK211.out 1).trans rfl
                have hfz55_0 := blk_frozen BK211.out 0
                have hfz55_1 := blk_frozen BK211.out 1
                go_wp2
                go_meet
                case rel => exact ⟨_, (true), (by first | rfl | (simp; done) | (simp [*]; done)), H', ⟨by have := HK1.out; first | omega | exact Nat.le_refl _⟩, ⟨by (with_reducible repeat (first | apply Kd.R_alloc | apply Kd.R_drewN | apply Kd.R_drew)); exact Kd.R_mono (Kd.R_far (p := ⟨gb211, 1, none⟩) (Kd.R_far (p := ⟨gb211, 0, none⟩) (Kd.R_far (p := ⟨gb210, 2, none⟩) (Kd.R_far (p := ⟨gb210, 1, none⟩) (Kd.R_far (p := ⟨gb210, 0, none⟩) (Kd.R_types (Kd.R_types HO_192002.out BK210.out (by decide)) BK211.out (by decide)) (fun _ hk => hk.1.2) (.int .i64 t200)) (fun _ hk => hk.1.2) (.int .u64 t201)) (fun _ hk => hk.1.2) (.slice Ao31 t202.length co31)) (fun _ hk => hk.2) (.slice Ao32 t205.length co32)) (fun _ hk => hk.2) (.int .i64 t208)) (fun _ hk => ⟨hk.1.1.1, hk.1.1.2⟩)⟩, ⟨by (with_reducible repeat (first | apply Kd.R_alloc | apply Kd.R_drewN | apply Kd.R_drew)); exact Kd.R_mono (Kd.R_far (p := ⟨gb211, 1, none⟩) (Kd.R_far (p := ⟨gb211, 0, none⟩) (Kd.R_far (p := ⟨gb210, 2, none⟩) (Kd.R_far (p := ⟨gb210, 1, none⟩) (Kd.R_far (p := ⟨gb210, 0, none⟩) (Kd.R_types (Kd.R_types HO_196002.out BK210.out (by decide)) BK211.out (by decide)) (fun _ hk => hk.1.2) (.int .i64 t200)) (fun _ hk => hk.1.2) (.int .u64 t201)) (fun _ hk => hk.1.2) (.slice Ao31 t202.length co31)) (fun _ hk => hk.2) (.slice Ao32 t205.length co32)) (fun _ hk => hk.2) (.int .i64 t208)) (fun _ hk => ⟨hk.1.1.1, hk.1.1.2⟩)⟩, ⟨by (with_reducible repeat (first | apply Kd.R_alloc | apply Kd.R_drewN | apply Kd.R_drew)); exact Kd.R_mono (Kd.R_far (p := ⟨gb211, 1, none⟩) (Kd.R_far (p := ⟨gb211, 0, none⟩) (Kd.R_far (p := ⟨gb210, 2, none⟩) (Kd.R_far (p := ⟨gb210, 1, none⟩) (Kd.R_far (p := ⟨gb210, 0, none⟩) (Kd.R_types (Kd.R_types HO204.out BK210.out (by decide)) BK211.out (by decide)) (fun _ hk => hk.1.2) (.int .i64 t200)) (fun _ hk => hk.1.2) (.int .u64 t201)) (fun _ hk => hk.1.2) (.slice Ao31 t202.length co31)) (fun _ hk => hk.2) (.slice Ao32 t205.length co32)) (fun _ hk => hk.2) (.int .i64 t208)) (fun _ hk => ⟨hk.1.1.1.2, hk.1.1.2⟩)⟩, ⟨by (with_reducible repeat (first | apply Kd.V_alloc | apply Kd.V_drewN | apply Kd.V_drew)); exact Kd.V_mono (Kd.V_far (p := ⟨gb211, 1, none⟩) (Kd.V_far (p := ⟨gb211, 0, none⟩) (Kd.V_far (p := ⟨gb210, 2, none⟩) (Kd.V_far (p := ⟨gb210, 1, none⟩) (Kd.V_far (p := ⟨gb210, 0, none⟩) (Kd.V_mono (Kd.V_mono HO207.out (fun k_ hk => (⟨hk, hk.1.2⟩ : _ ∧ k_ ≠ gb210))) (fun k_ hk => (⟨hk, hk.1.2⟩ : _ ∧ k_ ≠ gb211))) (fun _ hk => hk.1.2) (.int .i64 t200)) (fun _ hk => hk.1.2) (.int .u64 t201)) (fun _ hk => hk.1.2) (.slice Ao31 t202.length co31)) (fun _ hk => hk.2) (.slice Ao32 t205.length co32)) (fun _ hk => hk.2) (.int .i64 t208)) (fun _ hk => ⟨hk.1.1.1.1.2.1, ⟨hk.1.1.1.1.2.2.1, ⟨hk.1.1.1.1.1, ⟨hk.1.1.1.1.2.2.2.1, ⟨hk.1.1.1.1.2.2.2.2, ⟨hk.1.1.1.2, hk.1.1.2⟩⟩⟩⟩⟩⟩)⟩, ⟨by (with_reducible repeat (first | refine blk_drewN ?_ _ | refine blk_drew ?_ | refine blk_alloc ?_ _)); refine blk_far ?_ NB191_211.out _; (with_reducible repeat (first | refine blk_drewN ?_ _ | refine blk_drew ?_ | refine blk_alloc ?_ _)); refine blk_far ?_ NB191_211.out _; (with_reducible repeat (first | refine blk_drewN ?_ _ | refine blk_drew ?_ | refine blk_alloc ?_ _)); refine blk_far ?_ NB191_210.out _; (with_reducible repeat (first | refine blk_drewN ?_ _ | refine blk_drew ?_ | refine blk_alloc ?_ _)); refine blk_far ?_ NB191_210.out _; (with_reducible repeat (first | refine blk_drewN ?_ _ | refine blk_drew ?_ | refine blk_alloc ?_ _)); refine blk_far ?_ NB191_210.out _; (with_reducible repeat (first | refine blk_drewN ?_ _ | refine blk_drew ?_ | refine blk_alloc ?_ _)); exact BK191.out⟩, ⟨by (with_reducible repeat (first | refine blk_drewN ?_ _ | refine blk_drew ?_ | refine blk_alloc ?_ _)); refine blk_far ?_ NB195_211.out _; (with_reducible repeat (first | refine blk_drewN ?_ _ | refine blk_drew ?_ | refine blk_alloc ?_ _)); refine blk_far ?_ NB195_211.out _; (with_reducible repeat (first | refine blk_drewN ?_ _ | refine blk_drew ?_ | refine blk_alloc ?_ _)); refine blk_far ?_ NB195_210.out _; (with_reducible repeat (first | refine blk_drewN ?_ _ | refine blk_drew ?_ | refine blk_alloc ?_ _)); refine blk_far ?_ NB195_210.out _; (with_reducible repeat (first | refine blk_drewN ?_ _ | refine blk_drew ?_ | refine blk_alloc ?_ _)); refine blk_far ?_ NB195_210.out _; (with_reducible repeat (first | refine blk_drewN ?_ _ | refine blk_drew ?_ | refine blk_alloc ?_ _)); exact BK195.out⟩, ⟨by (with_reducible repeat (first | refine blk_drewN ?_ _ | refine blk_drew ?_ | refine blk_alloc ?_ _)); refine blk_far ?_ NB210_211.out _; (with_reducible repeat (first | refine blk_drewN ?_ _ | refine blk_drew ?_ | refine blk_alloc ?_ _)); refine blk_far ?_ NB210_211.out _; (with_reducible repeat (first | refine blk_drewN ?_ _ | refine blk_drew ?_ | refine blk_alloc ?_ _)); refine blk_put (cs := #[.int .i64 t200, .int .u64 t201, .slice none 0 0]) ?_ 2 _ rfl; (with_reducible repeat (first | refine blk_drewN ?_ _ | refine blk_drew ?_ | refine blk_alloc ?_ _)); refine blk_put (cs := #[.int .i64 t200, .int .u64 0, .slice none 0 0]) ?_ 1 _ rfl; (with_reducible repeat (first | refine blk_drewN ?_ _ | refine blk_drew ?_ | refine blk_alloc ?_ _)); refine blk_put (cs := #[.int .i64 0, .int .u64 0, .slice none 0 0]) ?_ 0 _ rfl; (with_reducible repeat (first | refine blk_drewN ?_ _ | refine blk_drew ?_ | refine blk_alloc ?_ _)); exact BK210.out⟩, ⟨by (with_reducible repeat (first | refine blk_drewN ?_ _ | refine blk_drew ?_ | refine blk_alloc ?_ _)); refine blk_put (cs := #[.slice Ao32 t205.length co32, .int .i64 0]) ?_ 1 _ rfl; (with_reducible repeat (first | refine blk_drewN ?_ _ | refine blk_drew ?_ | refine blk_alloc ?_ _)); refine blk_put (cs := #[.slice none 0 0, .int .i64 0]) ?_ 0 _ rfl; (with_reducible repeat (first | refine blk_drewN ?_ _ | refine blk_drew ?_ | refine blk_alloc ?_ _)); refine blk_far ?_ NB211_210.out _; (with_reducible repeat (first | refine blk_drewN ?_ _ | refine blk_drew ?_ | refine blk_alloc ?_ _)); refine blk_far ?_ NB211_210.out _; (with_reducible repeat (first | refine blk_drewN ?_ _ | refine blk_drew ?_ | refine blk_alloc ?_ _)); refine blk_far ?_ NB211_210.out _; (with_reducible repeat (first | refine blk_drewN ?_ _ | refine blk_drew ?_ | refine blk_alloc ?_ _)); exact BK211.out⟩, ⟨by repeat (first | (with_reducible first | exact HB.out | apply below_alloc | apply pw_below_drewN | apply below_drew1 | refine below_set ?_ GE191.out | refine below_set ?_ GE195.out | refine below_set ?_ GE210.out | refine below_set ?_ GE211.out) | exact HB.out)⟩⟩
            · rw [if_neg c37] at H
              have c37b0 : ((t202.length : Int) == 1) = false := beq_eq_false_iff_ne.mpr c37
              have c37b1 : ((t202.length : Int) != 1) = true := bne_iff_ne.mpr c37
              have H' := Aside0.mk H
              clear H
              have hnb56 := NB210_191.out
              have hnc56 := NB191_210.out
              have hnb57 := NB210_195.out
              have hnc57 := NB195_210.out
              have hnb58 := NB210_211.out
              have hnc58 := NB211_210.out
              have hcz59_0 : w26.cell? ⟨gb210, 0, none⟩ = some (.int .i64 0) := (blk_cell BK210.out 0).trans rfl
              have hcz59_1 : w26.cell? ⟨gb210, 1, none⟩ = some (.int .u64 0) := (blk_cell BK210.out 1).trans rfl
              have hcz59_2 : w26.cell? ⟨gb210, 2, none⟩ = some (.slice none 0 0) := (blk_cell BK210.out 2).trans rfl
              have hfz59_0 := blk_frozen BK210.out 0
              have hfz59_1 := blk_frozen BK210.out 1
              have hfz59_2 := blk_frozen BK210.out 2
              go_wp2
              go_meet
              case rel => exact ⟨_, (true), (by first | rfl | (simp; done) | (simp [*]; done)), H', ⟨by have := HK1.out; first | omega | exact Nat.le_refl _⟩, ⟨by (with_reducible repeat (first | apply Kd.R_alloc | apply Kd.R_drewN | apply Kd.R_drew)); exact Kd.R_mono (Kd.R_far (p := ⟨gb211, 1, none⟩) (Kd.R_far (p := ⟨gb211, 0, none⟩) (Kd.R_far (p := ⟨gb210, 2, none⟩) (Kd.R_far (p := ⟨gb210, 1, none⟩) (Kd.R_far (p := ⟨gb210, 0, none⟩) (Kd.R_types (Kd.R_types HO_192002.out BK210.out (by decide)) BK211.out (by decide)) (fun _ hk => hk.1.2) (.int .i64 t200)) (fun _ hk => hk.1.2) (.int .u64 t201)) (fun _ hk => hk.1.2) (.slice Ao31 t202.length co31)) (fun _ hk => hk.2) (.slice Ao32 t205.length co32)) (fun _ hk => hk.2) (.int .i64 t208)) (fun _ hk => ⟨hk.1.1.1, hk.1.1.2⟩)⟩, ⟨by (with_reducible repeat (first | apply Kd.R_alloc | apply Kd.R_drewN | apply Kd.R_drew)); exact Kd.R_mono (Kd.R_far (p := ⟨gb211, 1, none⟩) (Kd.R_far (p := ⟨gb211, 0, none⟩) (Kd.R_far (p := ⟨gb210, 2, none⟩) (Kd.R_far (p := ⟨gb210, 1, none⟩) (Kd.R_far (p := ⟨gb210, 0, none⟩) (Kd.R_types (Kd.R_types HO_196002.out BK210.out (by decide)) BK211.out (by decide)) (fun _ hk => hk.1.2) (.int .i64 t200)) (fun _ hk => hk.1.2) (.int .u64 t201)) (fun _ hk => hk.1.2) (.slice Ao31 t202.length co31)) (fun _ hk => hk.2) (.slice Ao32 t205.length co32)) (fun _ hk => hk.2) (.int .i64 t208)) (fun _ hk => ⟨hk.1.1.1, hk.1.1.2⟩)⟩, ⟨by (with_reducible repeat (first | apply Kd.R_alloc | apply Kd.R_drewN | apply Kd.R_drew)); exact Kd.R_mono (Kd.R_far (p := ⟨gb211, 1, none⟩) (Kd.R_far (p := ⟨gb211, 0, none⟩) (Kd.R_far (p := ⟨gb210, 2, none⟩) (Kd.R_far (p := ⟨gb210, 1, none⟩) (Kd.R_far (p := ⟨gb210, 0, none⟩) (Kd.R_types (Kd.R_types HO204.out BK210.out (by decide)) BK211.out (by decide)) (fun _ hk => hk.1.2) (.int .i64 t200)) (fun _ hk => hk.1.2) (.int .u64 t201)) (fun _ hk => hk.1.2) (.slice Ao31 t202.length co31)) (fun _ hk => hk.2) (.slice Ao32 t205.length co32)) (fun _ hk => hk.2) (.int .i64 t208)) (fun _ hk => ⟨hk.1.1.1.2, hk.1.1.2⟩)⟩, ⟨by (with_reducible repeat (first | apply Kd.V_alloc | apply Kd.V_drewN | apply Kd.V_drew)); exact Kd.V_mono (Kd.V_far (p := ⟨gb211, 1, none⟩) (Kd.V_far (p := ⟨gb211, 0, none⟩) (Kd.V_far (p := ⟨gb210, 2, none⟩) (Kd.V_far (p := ⟨gb210, 1, none⟩) (Kd.V_far (p := ⟨gb210, 0, none⟩) (Kd.V_mono (Kd.V_mono HO207.out (fun k_ hk => (⟨hk, hk.1.2⟩ : _ ∧ k_ ≠ gb210))) (fun k_ hk => (⟨hk, hk.1.2⟩ : _ ∧ k_ ≠ gb211))) (fun _ hk => hk.1.2) (.int .i64 t200)) (fun _ hk => hk.1.2) (.int .u64 t201)) (fun _ hk => hk.1.2) (.slice Ao31 t202.length co31)) (fun _ hk => hk.2) (.slice Ao32 t205.length co32)) (fun _ hk => hk.2) (.int .i64 t208)) (fun _ hk => ⟨hk.1.1.1.1.2.1, ⟨hk.1.1.1.1.2.2.1, ⟨hk.1.1.1.1.1, ⟨hk.1.1.1.1.2.2.2.1, ⟨hk.1.1.1.1.2.2.2.2, ⟨hk.1.1.1.2, hk.1.1.2⟩⟩⟩⟩⟩⟩)⟩, ⟨by (with_reducible repeat (first | refine blk_drewN ?_ _ | refine blk_drew ?_ | refine blk_alloc ?_ _)); refine blk_far ?_ NB191_211.out _; (with_reducible repeat (first | refine blk_drewN ?_ _ | refine blk_drew ?_ | refine blk_alloc ?_ _)); refine blk_far ?_ NB191_211.out _; (with_reducible repeat (first | refine blk_drewN ?_ _ | refine blk_drew ?_ | refine blk_alloc ?_ _)); refine blk_far ?_ NB191_210.out _; (with_reducible repeat (first | refine blk_drewN ?_ _ | refine blk_drew ?_ | refine blk_alloc ?_ _)); refine blk_far ?_ NB191_210.out _; (with_reducible repeat (first | refine blk_drewN ?_ _ | refine blk_drew ?_ | refine blk_alloc ?_ _)); refine blk_far ?_ NB191_210.out _; (with_reducible repeat (first | refine blk_drewN ?_ _ | refine blk_drew ?_ | refine blk_alloc ?_ _)); exact BK191.out⟩, ⟨by (with_reducible repeat (first | refine blk_drewN ?_ _ | refine blk_drew ?_ | refine blk_alloc ?_ _)); refine blk_far ?_ NB195_211.out _; (with_reducible repeat (first | refine blk_drewN ?_ _ | refine blk_drew ?_ | refine blk_alloc ?_ _)); refine blk_far ?_ NB195_211.out _; (with_reducible repeat (first | refine blk_drewN ?_ _ | refine blk_drew ?_ | refine blk_alloc ?_ _)); refine blk_far ?_ NB195_210.out _; (with_reducible repeat (first | refine blk_drewN ?_ _ | refine blk_drew ?_ | refine blk_alloc ?_ _)); refine blk_far ?_ NB195_210.out _; (with_reducible repeat (first | refine blk_drewN ?_ _ | refine blk_drew ?_ | refine blk_alloc ?_ _)); refine blk_far ?_ NB195_210.out _; (with_reducible repeat (first | refine blk_drewN ?_ _ | refine blk_drew ?_ | refine blk_alloc ?_ _)); exact BK195.out⟩, ⟨by (with_reducible repeat (first | refine blk_drewN ?_ _ | refine blk_drew ?_ | refine blk_alloc ?_ _)); refine blk_far ?_ NB210_211.out _; (with_reducible repeat (first | refine blk_drewN ?_ _ | refine blk_drew ?_ | refine blk_alloc ?_ _)); refine blk_far ?_ NB210_211.out _; (with_reducible repeat (first | refine blk_drewN ?_ _ | refine blk_drew ?_ | refine blk_alloc ?_ _)); refine blk_put (cs := #[.int .i64 t200, .int .u64 t201, .slice none 0 0]) ?_ 2 _ rfl; (with_reducible repeat (first | refine blk_drewN ?_ _ | refine blk_drew ?_ | refine blk_alloc ?_ _)); refine blk_put (cs := #[.int .i64 t200, .int .u64 0, .slice none 0 0]) ?_ 1 _ rfl; (with_reducible repeat (first | refine blk_drewN ?_ _ | refine blk_drew ?_ | refine blk_alloc ?_ _)); refine blk_put (cs := #[.int .i64 0, .int .u64 0, .slice none 0 0]) ?_ 0 _ rfl; (with_reducible repeat (first | refine blk_drewN ?_ _ | refine blk_drew ?_ | refine blk_alloc ?_ _)); exact BK210.out⟩, ⟨by (with_reducible repeat (first | refine blk_drewN ?_ _ | refine blk_drew ?_ | refine blk_alloc ?_ _)); refine blk_put (cs := #[.slice Ao32 t205.length co32, .int .i64 0]) ?_ 1 _ rfl; (with_reducible repeat (first | refine blk_drewN ?_ _ | refine blk_drew ?_ | refine blk_alloc ?_ _)); refine blk_put (cs := #[.slice none 0 0, .int .i64 0]) ?_ 0 _ rfl; (with_reducible repeat (first | refine blk_drewN ?_ _ | refine blk_drew ?_ | refine blk_alloc ?_ _)); refine blk_far ?_ NB211_210.out _; (with_reducible repeat (first | refine blk_drewN ?_ _ | refine blk_drew ?_ | refine blk_alloc ?_ _)); refine blk_far ?_ NB211_210.out _; (with_reducible repeat (first | refine blk_drewN ?_ _ | refine blk_drew ?_ | refine blk_alloc ?_ _)); refine blk_far ?_ NB211_210.out _; (with_reducible repeat (first | refine blk_drewN ?_ _ | refine blk_drew ?_ | refine blk_alloc ?_ _)); exact BK211.out⟩, ⟨by repeat (first | (with_reducible first | exact HB.out | apply below_alloc | apply pw_below_drewN | apply below_drew1 | refine below_set ?_ GE191.out | refine below_set ?_ GE195.out | refine below_set ?_ GE210.out | refine below_set ?_ GE211.out) | exact HB.out)⟩⟩
          · rw [if_neg c36] at H
            have c36b0 : (t209 == 0) = false := beq_eq_false_iff_ne.mpr c36
            have c36b1 : (t209 != 0) = true := bne_iff_ne.mpr c36
            (first | rw [c36b0] | (simp only [i64_w, i32_w]; rw [c36b0]) | skip)
            have H' := Aside0.mk H
            clear H
            go_wp2
            go_meet
            case rel => exact ⟨_, (true), (by first | rfl | (simp; done) | (simp [*]; done)), H', ⟨by have := HK1.out; first | omega | exact Nat.le_refl _⟩, ⟨by (with_reducible repeat (first | apply Kd.R_alloc | apply Kd.R_drewN | apply Kd.R_drew)); exact Kd.R_mono (Kd.R_far (p := ⟨gb211, 1, none⟩) (Kd.R_far (p := ⟨gb211, 0, none⟩) (Kd.R_far (p := ⟨gb210, 2, none⟩) (Kd.R_far (p := ⟨gb210, 1, none⟩) (Kd.R_far (p := ⟨gb210, 0, none⟩) (Kd.R_types (Kd.R_types HO_192002.out BK210.out (by decide)) BK211.out (by decide)) (fun _ hk => hk.1.2) (.int .i64 t200)) (fun _ hk => hk.1.2) (.int .u64 t201)) (fun _ hk => hk.1.2) (.slice Ao31 t202.length co31)) (fun _ hk => hk.2) (.slice Ao32 t205.length co32)) (fun _ hk => hk.2) (.int .i64 t208)) (fun _ hk => ⟨hk.1.1.1, hk.1.1.2⟩)⟩, ⟨by (with_reducible repeat (first | apply Kd.R_alloc | apply Kd.R_drewN | apply Kd.R_drew)); exact Kd.R_mono (Kd.R_far (p := ⟨gb211, 1, none⟩) (Kd.R_far (p := ⟨gb211, 0, none⟩) (Kd.R_far (p := ⟨gb210, 2, none⟩) (Kd.R_far (p := ⟨gb210, 1, none⟩) (Kd.R_far (p := ⟨gb210, 0, none⟩) (Kd.R_types (Kd.R_types HO_196002.out BK210.out (by decide)) BK211.out (by decide)) (fun _ hk => hk.1.2) (.int .i64 t200)) (fun _ hk => hk.1.2) (.int .u64 t201)) (fun _ hk => hk.1.2) (.slice Ao31 t202.length co31)) (fun _ hk => hk.2) (.slice Ao32 t205.length co32)) (fun _ hk => hk.2) (.int .i64 t208)) (fun _ hk => ⟨hk.1.1.1, hk.1.1.2⟩)⟩, ⟨by (with_reducible repeat (first | apply Kd.R_alloc | apply Kd.R_drewN | apply Kd.R_drew)); exact Kd.R_mono (Kd.R_far (p := ⟨gb211, 1, none⟩) (Kd.R_far (p := ⟨gb211, 0, none⟩) (Kd.R_far (p := ⟨gb210, 2, none⟩) (Kd.R_far (p := ⟨gb210, 1, none⟩) (Kd.R_far (p := ⟨gb210, 0, none⟩) (Kd.R_types (Kd.R_types HO204.out BK210.out (by decide)) BK211.out (by decide)) (fun _ hk => hk.1.2) (.int .i64 t200)) (fun _ hk => hk.1.2) (.int .u64 t201)) (fun _ hk => hk.1.2) (.slice Ao31 t202.length co31)) (fun _ hk => hk.2) (.slice Ao32 t205.length co32)) (fun _ hk => hk.2) (.int .i64 t208)) (fun _ hk => ⟨hk.1.1.1.2, hk.1.1.2⟩)⟩, ⟨by (with_reducible repeat (first | apply Kd.V_alloc | apply Kd.V_drewN | apply Kd.V_drew)); exact Kd.V_mono (Kd.V_far (p := ⟨gb211, 1, none⟩) (Kd.V_far (p := ⟨gb211, 0, none⟩) (Kd.V_far (p := ⟨gb210, 2, none⟩) (Kd.V_far (p := ⟨gb210, 1, none⟩) (Kd.V_far (p := ⟨gb210, 0, none⟩) (Kd.V_mono (Kd.V_mono HO207.out (fun k_ hk => (⟨hk, hk.1.2⟩ : _ ∧ k_ ≠ gb210))) (fun k_ hk => (⟨hk, hk.1.2⟩ : _ ∧ k_ ≠ gb211))) (fun _ hk => hk.1.2) (.int .i64 t200)) (fun _ hk => hk.1.2) (.int .u64 t201)) (fun _ hk => hk.1.2) (.slice Ao31 t202.length co31)) (fun _ hk => hk.2) (.slice Ao32 t205.length co32)) (fun _ hk => hk.2) (.int .i64 t208)) (fun _ hk => ⟨hk.1.1.1.1.2.1, ⟨hk.1.1.1.1.2.2.1, ⟨hk.1.1.1.1.1, ⟨hk.1.1.1.1.2.2.2.1, ⟨hk.1.1.1.1.2.2.2.2, ⟨hk.1.1.1.2, hk.1.1.2⟩⟩⟩⟩⟩⟩)⟩, ⟨by (with_reducible repeat (first | refine blk_drewN ?_ _ | refine blk_drew ?_ | refine blk_alloc ?_ _)); refine blk_far ?_ NB191_211.out _; (with_reducible repeat (first | refine blk_drewN ?_ _ | refine blk_drew ?_ | refine blk_alloc ?_ _)); refine blk_far ?_ NB191_211.out _; (with_reducible repeat (first | refine blk_drewN ?_ _ | refine blk_drew ?_ | refine blk_alloc ?_ _)); refine blk_far ?_ NB191_210.out _; (with_reducible repeat (first | refine blk_drewN ?_ _ | refine blk_drew ?_ | refine blk_alloc ?_ _)); refine blk_far ?_ NB191_210.out _; (with_reducible repeat (first | refine blk_drewN ?_ _ | refine blk_drew ?_ | refine blk_alloc ?_ _)); refine blk_far ?_ NB191_210.out _; (with_reducible repeat (first | refine blk_drewN ?_ _ | refine blk_drew ?_ | refine blk_alloc ?_ _)); exact BK191.out⟩, ⟨by (with_reducible repeat (first | refine blk_drewN ?_ _ | refine blk_drew ?_ | refine blk_alloc ?_ _)); refine blk_far ?_ NB195_211.out _; (with_reducible repeat (first | refine blk_drewN ?_ _ | refine blk_drew ?_ | refine blk_alloc ?_ _)); refine blk_far ?_ NB195_211.out _; (with_reducible repeat (first | refine blk_drewN ?_ _ | refine blk_drew ?_ | refine blk_alloc ?_ _)); refine blk_far ?_ NB195_210.out _; (with_reducible repeat (first | refine blk_drewN ?_ _ | refine blk_drew ?_ | refine blk_alloc ?_ _)); refine blk_far ?_ NB195_210.out _; (with_reducible repeat (first | refine blk_drewN ?_ _ | refine blk_drew ?_ | refine blk_alloc ?_ _)); refine blk_far ?_ NB195_210.out _; (with_reducible repeat (first | refine blk_drewN ?_ _ | refine blk_drew ?_ | refine blk_alloc ?_ _)); exact BK195.out⟩, ⟨by (with_reducible repeat (first | refine blk_drewN ?_ _ | refine blk_drew ?_ | refine blk_alloc ?_ _)); refine blk_far ?_ NB210_211.out _; (with_reducible repeat (first | refine blk_drewN ?_ _ | refine blk_drew ?_ | refine blk_alloc ?_ _)); refine blk_far ?_ NB210_211.out _; (with_reducible repeat (first | refine blk_drewN ?_ _ | refine blk_drew ?_ | refine blk_alloc ?_ _)); refine blk_put (cs := #[.int .i64 t200, .int .u64 t201, .slice none 0 0]) ?_ 2 _ rfl; (with_reducible repeat (first | refine blk_drewN ?_ _ | refine blk_drew ?_ | refine blk_alloc ?_ _)); refine blk_put (cs := #[.int .i64 t200, .int .u64 0, .slice none 0 0]) ?_ 1 _ rfl; (with_reducible repeat (first | refine blk_drewN ?_ _ | refine blk_drew ?_ | refine blk_alloc ?_ _)); refine blk_put (cs := #[.int .i64 0, .int .u64 0, .slice none 0 0]) ?_ 0 _ rfl; (with_reducible repeat (first | refine blk_drewN ?_ _ | refine blk_drew ?_ | refine blk_alloc ?_ _)); exact BK210.out⟩, ⟨by (with_reducible repeat (first | refine blk_drewN ?_ _ | refine blk_drew ?_ | refine blk_alloc ?_ _)); refine blk_put (cs := #[.slice Ao32 t205.length co32, .int .i64 0]) ?_ 1 _ rfl; (with_reducible repeat (first | refine blk_drewN ?_ _ | refine blk_drew ?_ | refine blk_alloc ?_ _)); refine blk_put (cs := #[.slice none 0 0, .int .i64 0]) ?_ 0 _ rfl; (with_reducible repeat (first | refine blk_drewN ?_ _ | refine blk_drew ?_ | refine blk_alloc ?_ _)); refine blk_far ?_ NB211_210.out _; (with_reducible repeat (first | refine blk_drewN ?_ _ | refine blk_drew ?_ | refine blk_alloc ?_ _)); refine blk_far ?_ NB211_210.out _; (with_reducible repeat (first | refine blk_drewN ?_ _ | refine blk_drew ?_ | refine blk_alloc ?_ _)); refine blk_far ?_ NB211_210.out _; (with_reducible repeat (first | refine blk_drewN ?_ _ | refine blk_drew ?_ | refine blk_alloc ?_ _)); exact BK211.out⟩, ⟨by repeat (first | (with_reducible first | exact HB.out | apply below_alloc | apply pw_below_drewN | apply below_drew1 | refine below_set ?_ GE191.out | refine below_set ?_ GE195.out | refine below_set ?_ GE210.out | refine below_set ?_ GE211.out) | exact HB.out)⟩⟩
        case rest =>
          clear HC17
          try clear c1
          try clear c2
          try clear p2
          try clear c3
          try clear c4
          try clear c5
          try clear c8
          try clear c12
          try clear c15
          try clear c15b0
          try clear c18
          try clear c19
          try clear c27
          try clear c28
          try clear c29
          try clear c33
          try clear c34
          try clear c36
          try clear c36b0
          try clear c36b1
          try clear c37
          try clear c37b0
          try clear c37b1
          try clear c38
          try clear c38b0
          try clear c38b1
          try clear c39
          try clear c40
          try clear c41
          try clear c43
          try clear c44
          try clear c46
          try clear c49
          try clear c50
          try clear c51
          try clear c53
          try clear c54
          try clear c56
          try clear c57
          try clear c58
          try clear hcz13_0
          try clear hcz13_1
          try clear hcz13_2
          try clear hcz14_0
          try clear hcz14_1
          try clear hcz14_2
          try clear hcz19_0
          try clear hcz19_1
          try clear hcz19_2
          try clear hcz20_0
          try clear hcz20_1
          try clear hcz20_2
          try clear hcz30_0
          try clear hcz30_1
          try clear hcz30_2
          try clear hcz35_0
          try clear hcz35_1
          try clear hcz42_0
          try clear hcz42_1
          try clear hcz42_2
          try clear hcz45_0
          try clear hcz45_1
          try clear hcz47_0
          try clear hcz47_1
          try clear hcz47_2
          try clear hcz48_0
          try clear hcz48_1
          try clear hcz48_2
          try clear hcz52_0
          try clear hcz52_1
          try clear hcz52_2
          try clear hcz55_0
          try clear hcz55_1
          try clear hcz59_0
          try clear hcz59_1
          try clear hcz59_2
          try clear hcz7_0
          try clear hcz7_1
          try clear hcz7_2
          try clear hfz13_0
          try clear hfz13_1
          try clear hfz13_2
          try clear hfz14_0
          try clear hfz14_1
          try clear hfz14_2
          try clear hfz19_0
          try clear hfz19_1
          try clear hfz19_2
          try clear hfz20_0
          try clear hfz20_1
          try clear hfz20_2
          try clear hfz30_0
          try clear hfz30_1
          try clear hfz30_2
          try clear hfz35_0
          try clear hfz35_1
          try clear hfz42_0
          try clear hfz42_1
          try clear hfz42_2
          try clear hfz45_0
          try clear hfz45_1
          try clear hfz47_0
          try clear hfz47_1
          try clear hfz47_2
          try clear hfz48_0
          try clear hfz48_1
          try clear hfz48_2
          try clear hfz52_0
          try clear hfz52_1
          try clear hfz52_2
          try clear hfz55_0
          try clear hfz55_1
          try clear hfz59_0
          try clear hfz59_1
          try clear hfz59_2
          try clear hfz7_0
          try clear hfz7_1
          try clear hfz7_2
          try clear p2
          obtain ⟨kq, x64_16, rfl, HA, HJ16, HO_192002, HO_196002, HO_211002, HO_212000, BK191, BK195, BK210, BK211, HB⟩ := hcut
          cases kq with
          | zero => exact absurd HA.out (by simp [samphirelaw16_ReserveShare.j1])
          | succ kj16 =>
            have H := HA.out
            clear HA
            simp only [samphirelaw16_ReserveShare.j1] at H
            by_cases c60 : x64_16 = true
            · subst c60
              have H1 : (some false) = some r := by rw [if_pos rfl] at H; exact H
              clear H
              have H := H1
              clear H1
              obtain rfl := Option.some.inj H
              go_wp2
              go_ret
              exact ⟨by first | rfl | (simp [errW_none, errW_some] <;> rfl) | (simp [*, errW_none, errW_some] <;> rfl), by repeat (first | (with_reducible first | exact HB.out | apply below_alloc | apply pw_below_drewN | apply below_drew1 | refine below_set ?_ GE191.out | refine below_set ?_ GE195.out | refine below_set ?_ GE210.out | refine below_set ?_ GE211.out) | exact HB.out)⟩
            · replace c60 := Bool.eq_false_iff.mpr c60
              subst c60
              have H1 : (if 0 < (t202.length : Int) then (if (rdOf ByteArray.empty t202 0).toList = ([97] : List UInt8) then (samphirelaw16_ReserveShare.l0 kj16 (IntKind.u64.wrap (x7_1 + 1)) (IntKind.u64.wrap ((IntKind.u64.wrap (1 + (IntKind.u64.wrap (Int.tmod a0 60)))) + (IntKind.u64.wrap (1 + (IntKind.u64.wrap (Int.tmod a1 60)))))) (IntKind.u64.wrap (x29_1 + 1)) 1 (IntKind.u64.wrap (1 + (IntKind.u64.wrap (Int.tmod a0 60)))) y188 1 (IntKind.u64.wrap (1 + (IntKind.u64.wrap (Int.tmod a1 60)))) y192) else (samphirelaw16_ReserveShare.l0 kj16 x7_1 (IntKind.u64.wrap ((IntKind.u64.wrap (1 + (IntKind.u64.wrap (Int.tmod a0 60)))) + (IntKind.u64.wrap (1 + (IntKind.u64.wrap (Int.tmod a1 60)))))) (IntKind.u64.wrap (x29_1 + 1)) 1 (IntKind.u64.wrap (1 + (IntKind.u64.wrap (Int.tmod a0 60)))) y188 1 (IntKind.u64.wrap (1 + (IntKind.u64.wrap (Int.tmod a1 60)))) y192)) else (none)) = some r := by rw [if_neg (show ¬ (false = true) by decide)] at H; exact H
              clear H
              have H := H1
              clear H1
              by_cases c61 : 0 < (t202.length : Int)
              · rw [if_pos c61] at H
                have c61b0 : decide (0 < (t202.length : Int)) = true := decide_eq_true c61
                have c61b1 : decide (0 < t202.length) = true := decide_eq_true (by omega)
                clear c61
                by_cases c62 : (rdOf ByteArray.empty t202 0).toList = ([97] : List UInt8)
                · rw [if_pos c62] at H
                  have c62b0 : ((rdOf ByteArray.empty t202 0).toList == ([97] : List UInt8)) = true := beq_iff_eq.mpr c62
                  have c62b1 : ((rdOf ByteArray.empty t202 0).toList != ([97] : List UInt8)) = false := bne_eq_false_iff_eq.mpr c62
                  clear c62
                  have H' := Aside0.mk H
                  clear H
                  have hnb63 := NB210_191.out
                  have hnc63 := NB191_210.out
                  have hnb64 := NB210_195.out
                  have hnc64 := NB195_210.out
                  have hnb65 := NB210_211.out
                  have hnc65 := NB211_210.out
                  have hcz66_0 : wc.cell? ⟨gb210, 0, none⟩ = some (.int .i64 t200) := (blk_cell BK210.out 0).trans rfl
                  have hcz66_1 : wc.cell? ⟨gb210, 1, none⟩ = some (.int .u64 t201) := (blk_cell BK210.out 1).trans rfl
                  have hcz66_2 : wc.cell? ⟨gb210, 2, none⟩ = some (.slice Ao31 t202.length co31) := (blk_cell BK210.out 2).trans rfl
                  have hfz66_0 := blk_frozen BK210.out 0
                  have hfz66_1 := blk_frozen BK210.out 1
                  have hfz66_2 := blk_frozen BK210.out 2
                  have p212 : 0 ≤ (0 : Int) := (by omega)
                  have q212 : 0 < (t202.length : Int) := of_decide_eq_true (by first | (with_reducible assumption) | assumption)
                  obtain ⟨ad212, e212, hx212_0⟩ := Kd.at_string (Kd.R_reads' HO_211002.out).2.2 0 p212 q212
                  cases e212
                  have qi212 : (0 < t202.length) = True := eq_true (by omega)
                  (try rw [show ((0 : Int)).toNat = 0 from rfl] at hx212_0)
                  (try rw [Addr.add_zero'] at hx212_0)
                  replace p212 := eq_true p212
                  replace q212 := eq_true q212
                  go_wp2
                  go_roundg kj16
                  case measure => have := HK1.out; have := HJ16.out; omega
                  case rel => exact ⟨(IntKind.u64.wrap (x7_1 + 1)), (IntKind.u64.wrap (x29_1 + 1)), (by first | rfl | (simp; done) | (simp [*]; done)), (by first | rfl | (simp; done) | (simp [*]; done)), H', ⟨by have := HK1.out; have := HJ16.out; omega⟩, ⟨by (with_reducible repeat (first | apply Kd.R_alloc | apply Kd.R_drewN | apply Kd.R_drew)); exact Kd.R_mono HO_192002.out (fun _ hk => hk.1)⟩, ⟨by (with_reducible repeat (first | apply Kd.R_alloc | apply Kd.R_drewN | apply Kd.R_drew)); exact Kd.R_mono HO_196002.out (fun _ hk => hk.1)⟩, ⟨by (with_reducible repeat (first | refine blk_drewN ?_ _ | refine blk_drew ?_ | refine blk_alloc ?_ _)); exact BK191.out⟩, ⟨by (with_reducible repeat (first | refine blk_drewN ?_ _ | refine blk_drew ?_ | refine blk_alloc ?_ _)); exact BK195.out⟩, ⟨by repeat (first | (with_reducible first | exact HB.out | apply below_alloc | apply pw_below_drewN | apply below_drew1 | refine below_set ?_ GE191.out | refine below_set ?_ GE195.out | refine below_set ?_ GE210.out | refine below_set ?_ GE211.out) | exact HB.out)⟩⟩
                · rw [if_neg c62] at H
                  have c62b0 : ((rdOf ByteArray.empty t202 0).toList == ([97] : List UInt8)) = false := beq_eq_false_iff_ne.mpr c62
                  have c62b1 : ((rdOf ByteArray.empty t202 0).toList != ([97] : List UInt8)) = true := bne_iff_ne.mpr c62
                  have H' := Aside0.mk H
                  clear H
                  have hnb67 := NB210_191.out
                  have hnc67 := NB191_210.out
                  have hnb68 := NB210_195.out
                  have hnc68 := NB195_210.out
                  have hnb69 := NB210_211.out
                  have hnc69 := NB211_210.out
                  have hcz70_0 : wc.cell? ⟨gb210, 0, none⟩ = some (.int .i64 t200) := (blk_cell BK210.out 0).trans rfl
                  have hcz70_1 : wc.cell? ⟨gb210, 1, none⟩ = some (.int .u64 t201) := (blk_cell BK210.out 1).trans rfl
                  have hcz70_2 : wc.cell? ⟨gb210, 2, none⟩ = some (.slice Ao31 t202.length co31) := (blk_cell BK210.out 2).trans rfl
                  have hfz70_0 := blk_frozen BK210.out 0
                  have hfz70_1 := blk_frozen BK210.out 1
                  have hfz70_2 := blk_frozen BK210.out 2
                  have p212 : 0 ≤ (0 : Int) := (by omega)
                  have q212 : 0 < (t202.length : Int) := of_decide_eq_true (by first | (with_reducible assumption) | assumption)
                  obtain ⟨ad212, e212, hx212_0⟩ := Kd.at_string (Kd.R_reads' HO_211002.out).2.2 0 p212 q212
                  cases e212
                  have qi212 : (0 < t202.length) = True := eq_true (by omega)
                  (try rw [show ((0 : Int)).toNat = 0 from rfl] at hx212_0)
                  (try rw [Addr.add_zero'] at hx212_0)
                  replace p212 := eq_true p212
                  replace q212 := eq_true q212
                  go_wp2
                  go_roundg kj16
                  case measure => have := HK1.out; have := HJ16.out; omega
                  case rel => exact ⟨(x7_1), (IntKind.u64.wrap (x29_1 + 1)), (by first | rfl | (simp; done) | (simp [*]; done)), (by first | rfl | (simp; done) | (simp [*]; done)), H', ⟨by have := HK1.out; have := HJ16.out; omega⟩, ⟨by (with_reducible repeat (first | apply Kd.R_alloc | apply Kd.R_drewN | apply Kd.R_drew)); exact Kd.R_mono HO_192002.out (fun _ hk => hk.1)⟩, ⟨by (with_reducible repeat (first | apply Kd.R_alloc | apply Kd.R_drewN | apply Kd.R_drew)); exact Kd.R_mono HO_196002.out (fun _ hk => hk.1)⟩, ⟨by (with_reducible repeat (first | refine blk_drewN ?_ _ | refine blk_drew ?_ | refine blk_alloc ?_ _)); exact BK191.out⟩, ⟨by (with_reducible repeat (first | refine blk_drewN ?_ _ | refine blk_drew ?_ | refine blk_alloc ?_ _)); exact BK195.out⟩, ⟨by repeat (first | (with_reducible first | exact HB.out | apply below_alloc | apply pw_below_drewN | apply below_drew1 | refine below_set ?_ GE191.out | refine below_set ?_ GE195.out | refine below_set ?_ GE210.out | refine below_set ?_ GE211.out) | exact HB.out)⟩⟩
              · rw [if_neg c61] at H
                exact absurd H (by simp)
      · rw [if_neg c15] at H
        have c15b0 : decide (x29_1 < (IntKind.u64.wrap ((IntKind.u64.wrap (1 + (IntKind.u64.wrap (Int.tmod a0 60)))) + (IntKind.u64.wrap (1 + (IntKind.u64.wrap (Int.tmod a1 60))))))) = false := decide_eq_false c15
        clear c15
        by_cases c71 : x7_1 = (IntKind.u64.wrap (1 + (IntKind.u64.wrap (Int.tmod a0 60))))
        · rw [if_pos c71] at H
          have c71b0 : (x7_1 == (IntKind.u64.wrap (1 + (IntKind.u64.wrap (Int.tmod a0 60))))) = true := beq_iff_eq.mpr c71
          have c71b1 : (x7_1 != (IntKind.u64.wrap (1 + (IntKind.u64.wrap (Int.tmod a0 60))))) = false := bne_eq_false_iff_eq.mpr c71
          clear c71
          replace H := Option.bind_eq_some_iff.mp H
          obtain ⟨t196, A720, H⟩ := H
          replace H : (some t196) = some r := H
          have A72 := Aside0.mk A720
          clear A720
          obtain rfl := Option.some.inj H
          have hnb73 := NB191_195.out
          have hnc73 := NB195_191.out
          have hcz74_0 : wr.cell? ⟨gb191, 0, none⟩ = some (.int .i64 1) := (blk_cell BK191.out 0).trans rfl
          have hcz74_1 : wr.cell? ⟨gb191, 1, none⟩ = some (.int .u64 (IntKind.u64.wrap (1 + (IntKind.u64.wrap (Int.tmod a0 60))))) := (blk_cell BK191.out 1).trans rfl
          have hcz74_2 : wr.cell? ⟨gb191, 2, none⟩ = some (.slice Ao5 y188.length co5) := (blk_cell BK191.out 2).trans rfl
          have hfz74_0 := blk_frozen BK191.out 0
          have hfz74_1 := blk_frozen BK191.out 1
          have hfz74_2 := blk_frozen BK191.out 2
          go_wp2_with (first | (go_at_call 11; (with_reducible refine (samphirelaw16_awake.calls k1  t196 _ A72.out).mono ?_); rintro e w75 ⟨rfl, hb⟩; have n0_ := Aside0.mk (Kd.R_below (by (with_reducible repeat (first | apply Kd.R_alloc | apply Kd.R_drewN | apply Kd.R_drew)); exact HO_192002.out) hb); have n1_ := Aside0.mk (Kd.R_below (by (with_reducible repeat (first | apply Kd.R_alloc | apply Kd.R_drewN | apply Kd.R_drew)); exact HO_196002.out) hb); have n2_ := Aside0.mk (blk_below (g := gb191) (o := .cells #[.int .i64 1, .int .u64 (IntKind.u64.wrap (1 + (IntKind.u64.wrap (Int.tmod a0 60)))), .slice Ao5 y188.length co5] 26 (0, 0)) (by (with_reducible repeat (first | refine blk_drewN ?_ _ | refine blk_drew ?_ | refine blk_alloc ?_ _)); exact BK191.out) hb); have n3_ := Aside0.mk (blk_below (g := gb195) (o := .cells #[.int .i64 1, .int .u64 (IntKind.u64.wrap (1 + (IntKind.u64.wrap (Int.tmod a1 60)))), .slice Ao10 y192.length co10] 26 (0, 0)) (by (with_reducible repeat (first | refine blk_drewN ?_ _ | refine blk_drew ?_ | refine blk_alloc ?_ _)); exact BK195.out) hb); have n4_ := Aside0.mk (below_step (by repeat (first | (with_reducible first | exact HB.out | apply below_alloc | apply pw_below_drewN | apply below_drew1 | refine below_set ?_ GE191.out | refine below_set ?_ GE195.out) | exact HB.out)) hb); clear HO_192002; clear HO_196002; clear BK191; clear BK195; clear HB; have HO_192002 := n0_; have HO_196002 := n1_; have BK191 := n2_; have BK195 := n3_; have HB := n4_; clear n0_ n1_ n2_ n3_ n4_; (try clear hb); (try clear hb2); (try clear hk); (try clear hi)))
          go_ret
          exact ⟨by first | rfl | (simp [errW_none, errW_some] <;> rfl) | (simp [*, errW_none, errW_some] <;> rfl), by repeat (first | (with_reducible first | exact HB.out | apply below_alloc | apply pw_below_drewN | apply below_drew1 | refine below_set ?_ GE191.out | refine below_set ?_ GE195.out) | exact HB.out)⟩
        · rw [if_neg c71] at H
          have c71b0 : (x7_1 == (IntKind.u64.wrap (1 + (IntKind.u64.wrap (Int.tmod a0 60))))) = false := beq_eq_false_iff_ne.mpr c71
          have c71b1 : (x7_1 != (IntKind.u64.wrap (1 + (IntKind.u64.wrap (Int.tmod a0 60))))) = true := bne_iff_ne.mpr c71
          obtain rfl := Option.some.inj H
          have hnb76 := NB191_195.out
          have hnc76 := NB195_191.out
          have hcz77_0 : wr.cell? ⟨gb191, 0, none⟩ = some (.int .i64 1) := (blk_cell BK191.out 0).trans rfl
          have hcz77_1 : wr.cell? ⟨gb191, 1, none⟩ = some (.int .u64 (IntKind.u64.wrap (1 + (IntKind.u64.wrap (Int.tmod a0 60))))) := (blk_cell BK191.out 1).trans rfl
          have hcz77_2 : wr.cell? ⟨gb191, 2, none⟩ = some (.slice Ao5 y188.length co5) := (blk_cell BK191.out 2).trans rfl
          have hfz77_0 := blk_frozen BK191.out 0
          have hfz77_1 := blk_frozen BK191.out 1
          have hfz77_2 := blk_frozen BK191.out 2
          go_wp2
          go_ret
          exact ⟨by first | rfl | (simp [errW_none, errW_some] <;> rfl) | (simp [*, errW_none, errW_some] <;> rfl), by repeat (first | (with_reducible first | exact HB.out | apply below_alloc | apply pw_below_drewN | apply below_drew1 | refine below_set ?_ GE191.out | refine below_set ?_ GE195.out) | exact HB.out)⟩

end Go.Proofs.Ythgacimoifbhiaa.Q
