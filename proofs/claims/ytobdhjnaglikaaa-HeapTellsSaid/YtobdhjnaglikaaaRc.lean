import Derived.Test.YtobdhjnaglikaaaRb
import Derived.Deep.RegionHeld3
import Derived.Deep.DeepCutAuto
namespace Go.Proofs.Ytobdhjnaglikaaa
open Go.RowKit Go.Proofs.YtobdhjnaglikaaaW.PrintWords Go.Proofs.YtobdhjnaglikaaaW.PrintLast
set_option linter.unusedVariables false
set_option linter.unusedSimpArgs false
def At0 (w : World) (g : Nat) : Prop := w.heap[g]? = some (boxA (fun _ => 0))
theorem at0_new (w : World) : At0 (w.alloc (boxA (fun _ => 0))) w.heap.size := heap_alloc_new _ _
theorem at0_next (w : World) (o : Obj) : At0 ((w.alloc o).alloc (boxA (fun _ => 0))) (w.heap.size + 1) := heap_alloc2_new _ _ _
theorem at0_old {w : World} {g : Nat} (h : At0 w g) (o : Obj) : At0 (w.alloc o) g := blk_alloc h o
theorem at0_old2 (w : World) (o : Obj) : At0 ((w.alloc (boxA (fun _ => 0))).alloc o) w.heap.size := heap_alloc2_old _ _ _
theorem at0_row {w : World} {g k : Nat} (hne : g ≠ k) (h : At0 w g) (c : Array Value) : At0 (w.setRow k c) g := (setRow_other _ _ _ _ hne).trans h
theorem at0_old_row {w : World} {g k : Nat} (hne : g ≠ k) (h : At0 w g) (o : Obj) (c : Array Value) : At0 ((w.alloc o).setRow k c) g := at0_row hne (at0_old h o) c
theorem at0_drew {w : World} {g : Nat} (h : At0 w g) : At0 w.drew g := h
theorem run_store_zero (w : World) (g : Nat) (f : Nat → Nat) (hg : At0 w g) : (storeCells ⟨g, 0, none⟩ (dA f 8).toList).run Try.prog w = .ok () (w.setRow g (dA f 8)) := by
 have := run_storeCells_from (P := Try.prog) g 65 (dA f 8).toList 0 (dA (fun _ => 0) 8) w hg (by simp [dA]) (fun v hv => (Array.all_eq_true_iff_forall_mem.1 (dA_one f 8)) v (by simpa using hv))
 simpa using this
theorem fin2 {w0 W : World} {g5 g6 : Nat} {f5 f6 : Nat → Nat} (h5 : At0 W g5) (h6 : At0 W g6) (hne : g5 ≠ g6) (hb : Below w0.heap.size w0 W) (k5 : w0.heap.size ≤ g5) (k6 : w0.heap.size ≤ g6) :
  Aside0 (((W.setRow g5 (dA f5 8)).setRow g6 (dA f6 8)).heap[g5]? = some (boxA f5) ∧ ((W.setRow g5 (dA f5 8)).setRow g6 (dA f6 8)).heap[g6]? = some (boxA f6) ∧ g5 ≠ g6 ∧ w0.heap.size ≤ g5 ∧ w0.heap.size ≤ g6 ∧ Below w0.heap.size w0 ((W.setRow g5 (dA f5 8)).setRow g6 (dA f6 8))) :=
 ⟨(setRow_other _ _ _ _ hne).trans (setRow_heap _ _ _ _ _ _ h5), setRow_heap _ _ _ _ _ _ ((setRow_other _ _ _ _ hne.symm).trans h6), hne, k5, k6, below_setRow (below_setRow hb k5 _) k6 _⟩
theorem dgA_V (h l j : Nat) (hl : W64 l) (hj : j < 8) : dgA h l 4 j = Dg.D (V h l) j := by
 unfold dgA Dg.D V
 have : j = 0 ∨ j = 1 ∨ j = 2 ∨ j = 3 ∨ j = 4 ∨ j = 5 ∨ j = 6 ∨ j = 7 := by omega
 rcases this with rfl | rfl | rfl | rfl | rfl | rfl | rfl | rfl <;> simp <;> omega
theorem V_top {h l : Nat} (hh : W64 h) (hl : W64 l) : V h l / 65536 ^ 8 = 0 := Nat.div_eq_of_lt (by unfold V W64 at *; omega)
theorem keepAB {w0 : World} {s ah al bh bl : Nat} (A0 : w0.heap[s]? = some (box2 ah al)) (A1 : w0.heap[s + 1]? = some (box2 bh bl)) (w' : World) (h : Below w0.heap.size w0 w') :
  w'.cell? ⟨s, 0, none⟩ = some (.int .u64 (ah : Int)) ∧ w'.cell? ⟨s, 1, none⟩ = some (.int .u64 (al : Int)) ∧ w'.cell? ⟨s + 1, 0, none⟩ = some (.int .u64 (bh : Int)) ∧ w'.cell? ⟨s + 1, 1, none⟩ = some (.int .u64 (bl : Int)) ∧ Below w0.heap.size w0 w' :=
 ⟨(blk_cell (blk_below A0 h) 0).trans rfl, (blk_cell (blk_below A0 h) 1).trans rfl, (blk_cell (blk_below A1 h) 0).trans rfl, (blk_cell (blk_below A1 h) 1).trans rfl, h⟩
attribute [local go_sem] run_store_zero at0_new at0_next at0_old at0_old2 at0_row at0_old_row at0_drew
set_option maxRecDepth 100000 in
set_option maxHeartbeats 4000000 in
theorem cmpD_any (ah al bh bl : Nat) (h1 : W64 ah) (h2 : W64 al) (h3 : W64 bh) (h4 : W64 bl) (w : World) :
  Calls Try.prog 41 #[U ah al, U bh bl] w fun e w' => e = .returned (.int .i64 (cmpR (V ah al) (V bh bl))) ∧ Below w.heap.size w w' := by
 have dA5 := Lib.hid (fun j (hj : j < 8) => dgA_V ah al j h2 hj)
 have dA6 := Lib.hid (fun j (hj : j < 8) => dgA_V bh bl j h4 hj)
 have tA := Lib.hid (V_top h1 h2)
 have tB := Lib.hid (V_top h3 h4)
 generalize V ah al = A at *
 generalize V bh bl = C at *
 have F1 := Lib.hid (digits_any ah al h1 h2)
 have F2 := Lib.hid (digits_any bh bl h3 h4)
 have hz := dA8_zero
 go_enter Try.func41, Try.ntmps41
 go_wp2
 obtain ⟨w0, hw0⟩ : ∃ w0, w0 = (w.alloc (box2 ah al)).alloc (box2 bh bl) := ⟨_, rfl⟩
 obtain ⟨s, hs⟩ : ∃ s, s = w.heap.size := ⟨_, rfl⟩
 have B0 := Aside0.mk (show Below w.heap.size w w0 by rw [hw0]; exact ba (ba (Below.refl _ _) _) _)
 have A0 := Aside0.mk (show w0.heap[s]? = some (box2 ah al) by rw [hw0, hs]; exact blk_alloc (blk_new _ _) _)
 have A1 := Aside0.mk (show w0.heap[s + 1]? = some (box2 bh bl) by rw [hw0, hs]; exact heap_alloc2_new _ _ _)
 change Code.wp _ _ _ _ ((w.alloc (box2 ah al)).alloc (box2 bh bl))
 rw [← hw0, ← hs]
 clear hw0 hs
 have a0 : w0.cell? ⟨s, 0, none⟩ = some (.int .u64 (ah : Int)) := (blk_cell A0.out 0).trans rfl
 have a1 : w0.cell? ⟨s, 1, none⟩ = some (.int .u64 (al : Int)) := (blk_cell A0.out 1).trans rfl
 have b0 : w0.cell? ⟨s + 1, 0, none⟩ = some (.int .u64 (bh : Int)) := (blk_cell A1.out 0).trans rfl
 have b1 : w0.cell? ⟨s + 1, 1, none⟩ = some (.int .u64 (bl : Int)) := (blk_cell A1.out 1).trans rfl
 have B9 := Aside0.mk (Below.refl w0.heap.size w0)
 have K0 := Lib.hid (keepAB A0.out A1.out)
 go_cut [5, 6] (fun v5 v6 wc => ∃ g5 g6 : Nat, v5 = .pointer (some ⟨g5, 0, none⟩) ∧ v6 = .pointer (some ⟨g6, 0, none⟩) ∧ Aside0 (wc.heap[g5]? = some (boxA (dgA ah al 4)) ∧ wc.heap[g6]? = some (boxA (dgA bh bl 4)) ∧ g5 ≠ g6 ∧ w0.heap.size ≤ g5 ∧ w0.heap.size ≤ g6 ∧ Below w0.heap.size w0 wc))
 case first =>
  go_region_held3 (fun w' => w'.cell? ⟨s, 0, none⟩ = some (.int .u64 (ah : Int)) ∧ w'.cell? ⟨s, 1, none⟩ = some (.int .u64 (al : Int)) ∧ w'.cell? ⟨s + 1, 0, none⟩ = some (.int .u64 (bh : Int)) ∧ w'.cell? ⟨s + 1, 1, none⟩ = some (.int .u64 (bl : Int)) ∧ Below w0.heap.size w0 w')
   ((refine K0.out _ ?_; repeat (with_reducible first | assumption | exact B9.out | exact B1.out | exact B2.out | apply below_alloc | apply below_drew1 | refine below_setRow ?_ ?_ _ | exact Nat.le_refl _ | exact Nat.le_succ _ | exact B1.out.size | exact B2.out.size | exact Nat.le_succ_of_le B1.out.size | exact Nat.le_succ_of_le B2.out.size)))
   (first
    | (go_at_call_of 46 (Value.agg #[Value.int IntKind.u64 (ah : Int), Value.int IntKind.u64 (al : Int)]); refine (F1.out _).mono ?_; rintro e w1 ⟨rfl, hb1⟩; have Z1 := Lib.hid (fun (k : Nat) (o : Obj) h => blk_below (g := k) (o := o) h hb1); have B1 := Aside0.mk (below_step (by repeat (with_reducible first | assumption | exact B9.out | apply below_alloc | apply below_drew1) : Below w0.heap.size w0 _) hb1); clear hb1; (first | (have qA : At0 w1 w0.heap.size := Z1.out _ _ (blk_new _ _)) | (have qA : At0 w1 w0.heap.size := Z1.out _ _ (heap_alloc2_old _ _ _)) | skip); (first | (have qB : At0 w1 (w0.heap.size + 1) := Z1.out _ _ (heap_alloc2_new _ _ _)) | skip); (try (have nA := Nat.ne_of_lt (blk_lt qA); have nA' := Ne.symm nA)); (try (have nB := Nat.ne_of_lt (blk_lt qB); have nB' := Ne.symm nB)))
    | (go_at_call_of 46 (Value.agg #[Value.int IntKind.u64 (bh : Int), Value.int IntKind.u64 (bl : Int)]); refine (F2.out _).mono ?_; rintro e w2 ⟨rfl, hb2⟩; have Z2 := Lib.hid (fun (k : Nat) (o : Obj) h => blk_below (g := k) (o := o) h hb2); have B2 := Aside0.mk (below_step (by repeat (with_reducible first | assumption | exact B1.out | apply below_alloc | apply below_drew1) : Below w0.heap.size w0 _) hb2); clear hb2; (first | (have qA2 : At0 w2 w0.heap.size := Z2.out _ _ qA) | (have qA2 : At0 w2 w0.heap.size := Z2.out _ _ (blk_alloc qA _)) | skip); (first | (have qB2 : At0 w2 (w0.heap.size + 1) := Z2.out _ _ qB) | skip); (first | (have qC2 : At0 w2 w1.heap.size := Z2.out _ _ (blk_new _ _)) | (have qC2 : At0 w2 w1.heap.size := Z2.out _ _ (heap_alloc2_old _ _ _)) | skip); (first | (have qD2 : At0 w2 (w1.heap.size + 1) := Z2.out _ _ (heap_alloc2_new _ _ _)) | skip); (try (have nA2 := Nat.ne_of_lt (blk_lt qA2); have nA2' := Ne.symm nA2)); (try (have nB2 := Nat.ne_of_lt (blk_lt qB2); have nB2' := Ne.symm nB2)); (try (have nC2 := Nat.ne_of_lt (blk_lt qC2); have nC2' := Ne.symm nC2)); (try (have nD2 := Nat.ne_of_lt (blk_lt qD2); have nD2' := Ne.symm nD2))))
  all_goals
   go_wp2
   go_meet
  all_goals
   refine ⟨_, _, rfl, rfl, fin2 ?_ ?_ ?_ ?_ ?_ ?_⟩
   ·
    first | assumption | exact at0_new _ | exact at0_next _ _ | exact at0_old2 _ _ | exact at0_old (by assumption) _
   ·
    first | assumption | exact at0_new _ | exact at0_next _ _ | exact at0_old2 _ _ | exact at0_old (by assumption) _
   ·
    first | assumption | exact Nat.succ_ne_self _ | exact Ne.symm (Nat.succ_ne_self _)
   ·
    first | exact B2.out | exact below_alloc B2.out _ | exact below_alloc (below_alloc B2.out _) _
   ·
    first | exact Nat.le_refl _ | exact Nat.le_succ _ | exact B1.out.size | exact B2.out.size | exact Nat.le_succ_of_le B1.out.size | exact Nat.le_succ_of_le B2.out.size
   ·
    first | exact Nat.le_refl _ | exact Nat.le_succ _ | exact B1.out.size | exact B2.out.size | exact Nat.le_succ_of_le B1.out.size | exact Nat.le_succ_of_le B2.out.size
 case rest =>
  obtain ⟨g5, g6, rfl, rfl, hA⟩ := hcut
  have B := Aside0.mk (below_step B0.out hA.out.2.2.2.2.2)
  have X5 := Aside0.mk hA.out.1
  have X6 := Aside0.mk hA.out.2.1
  clear hA B9 K0 F1 F2 A0 A1 a0 a1 b0 b1 B0 hz
  go_wp2
  go_loopw [7] (fun i wr => ∃ k : Nat, k ≤ 8 ∧ i = .int .i64 ((k : Int) - 1) ∧ Aside0 (wr.heap[g5]? = some (boxA (dgA ah al 4)) ∧ wr.heap[g6]? = some (boxA (dgA bh bl 4)) ∧ Below w.heap.size w wr ∧ A / 65536 ^ k = C / 65536 ^ k)) (fun i _ => (intOf i + 1).toNat)
  case atStart => exact ⟨8, Nat.le_refl _, rfl, ⟨X5.out, X6.out, B.out, by rw [tA.out, tB.out]⟩⟩
  case round =>
   obtain ⟨k, hk, rfl, hR⟩ := hrel
   clear X5 X6 B
   rcases k with _ | m
   ·
    rw [show (((0 : Nat) : Int) - 1) = -1 from rfl]
    have e : A = C := by have := hR.out.2.2.2; rwa [Nat.pow_zero, Nat.div_one, Nat.div_one] at this
    go_wp2
    go_ret
    exact ⟨by rw [e]; unfold cmpR; simp, hR.out.2.2.1⟩
   ·
    have em : ((m + 1 : Nat) : Int) - 1 = (m : Int) := by omega
    rw [em]
    have hb : decide ((0 : Int) ≤ (m : Int)) = true := decide_eq_true (by omega)
    have hm8 : (m : Int) < 8 := by omega
    obtain ⟨hlt, hgt, heq⟩ := Dg.cmp_step hR.out.2.2.2
    have c5 : wr.cell? ⟨g5, m, none⟩ = some (.int .u64 ((Dg.D A m : Nat) : Int)) := (blk_cell hR.out.1 m).trans ((dA_get _ 8 m (by omega)).trans (by rw [dA5.out m (by omega)]))
    have c6 : wr.cell? ⟨g6, m, none⟩ = some (.int .u64 ((Dg.D C m : Nat) : Int)) := (blk_cell hR.out.2.1 m).trans ((dA_get _ 8 m (by omega)).trans (by rw [dA6.out m (by omega)]))
    generalize Dg.D A m = x at *
    generalize Dg.D C m = y at *
    have HL := Lib.hid hlt
    have HG := Lib.hid hgt
    have HE := Lib.hid heq
    clear hlt hgt heq
    rcases Nat.lt_trichotomy x y with h | h | h
    ·
     have d1 : decide ((x : Int) < (y : Int)) = true := decide_eq_true (by omega)
     go_wp2
     go_still (by kernel_rfl)
     go_wp2
     go_ret
     refine ⟨?_, bd hR.out.2.2.1⟩
     have := HL.out h
     unfold cmpR; rw [if_pos this]; rfl
    ·
     have d1 : decide ((x : Int) < (y : Int)) = false := decide_eq_false (by omega)
     have d2 : decide ((y : Int) < (x : Int)) = false := decide_eq_false (by omega)
     go_wp2
     go_still (by kernel_rfl)
     go_wp2
     change Code.wp _ _ _ _ wr.drew
     have c5' : wr.drew.cell? ⟨g5, m, none⟩ = some (.int .u64 (x : Int)) := c5
     have c6' : wr.drew.cell? ⟨g6, m, none⟩ = some (.int .u64 (y : Int)) := c6
     have hR' := Aside0.mk (And.intro (blk_drew hR.out.1) (And.intro (blk_drew hR.out.2.1) (bd hR.out.2.2.1)))
     generalize wr.drew = w3 at c5' c6' hR' ⊢
     go_still (by kernel_rfl)
     go_wp2
     go_roundw
     case rel => exact ⟨m, by omega, by go_num, ⟨hR'.out.1, hR'.out.2.1, bd hR'.out.2.2, HE.out (by omega) (by omega)⟩⟩
     case measure => simp [intOf]
    ·
     have d1 : decide ((x : Int) < (y : Int)) = false := decide_eq_false (by omega)
     have d2 : decide ((y : Int) < (x : Int)) = true := decide_eq_true (by omega)
     go_wp2
     go_still (by kernel_rfl)
     go_wp2
     change Code.wp _ _ _ _ wr.drew
     have c5' : wr.drew.cell? ⟨g5, m, none⟩ = some (.int .u64 (x : Int)) := c5
     have c6' : wr.drew.cell? ⟨g6, m, none⟩ = some (.int .u64 (y : Int)) := c6
     have hR' := Aside0.mk (And.intro (blk_drew hR.out.1) (And.intro (blk_drew hR.out.2.1) (bd hR.out.2.2.1)))
     generalize wr.drew = w3 at c5' c6' hR' ⊢
     go_still (by kernel_rfl)
     go_wp2
     go_ret
     refine ⟨?_, bd hR'.out.2.2⟩
     have := HG.out h
     unfold cmpR; rw [if_neg (by omega), if_pos this]; rfl
end Go.Proofs.Ytobdhjnaglikaaa
