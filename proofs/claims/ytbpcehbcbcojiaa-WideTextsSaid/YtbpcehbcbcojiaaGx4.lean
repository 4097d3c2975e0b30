import Derived.Test.YtbpcehbcbcojiaaGx0
namespace Go.Proofs.Ytbpcehbcbcojiaa.G
open Go.Proofs.Ytbpcehbcbcojiaa.Q Go.Proofs.Ytbpcehbcbcojiaa.E
open Go.RowKit Go.Proofs.YtbpcehbcbcojiaaW.PrintWords Go.Proofs.YtbpcehbcbcojiaaW.PrintLast Go.Proofs.YtbpcehbcbcojiaaW.PrintMore
attribute [local go_sem] max2_int min2_int max_two min_two max_three min_three max_four min_four
set_option linter.unusedVariables false
set_option linter.unusedSimpArgs false
theorem u8wr (x : Int) : IntKind.u8.wrap x = x % 256 := by simp [IntKind.wrap, IntKind.signed, IntKind.bits]
mutual
def samphireref01_Read.j0 : Nat → ByteArray → Bool → Int → Int → Option (Int × Int × Bool)
 | 0, _, _, _, _ => none
 | k + 1, x0, x27, x120000, x120001 => if x27 = true then (some (x120000, x120001, false)) else (samphireref01_Read.l0 k x0 0 x120000 x120001)
def samphireref01_Read.l0 : Nat → ByteArray → Int → Int → Int → Option (Int × Int × Bool)
 | 0, _, _, _, _ => none
 | k + 1, x0, x5, x120000, x120001 => if x5 < (x0.size : Int) then (if 0 ≤ x5 then (if (bt x0 x5) < 48 then (samphireref01_Read.j2 k x0 x5 true x120000 x120001) else (samphireref01_Read.j2 k x0 x5 (decide ((bt x0 x5) > 57)) x120000 x120001)) else (none)) else (some (x120000, x120001, true))
def samphireref01_Read.j2 : Nat → ByteArray → Int → Bool → Int → Int → Option (Int × Int × Bool)
 | 0, _, _, _, _, _ => none
 | k + 1, x0, x5, x44, x120000, x120001 => if x44 = true then (some (0, 0, false)) else ((samphireref01_Mul.f x120000 x120001 0 10).bind fun bt120 => (if 0 ≤ x5 then (if x5 < (x0.size : Int) then ((samphireref01_Add.f bt120.1 bt120.2.1 0 (((bt x0 x5) - 48) % 256)).bind fun bt124 => (if bt120.2.2 = true then (if bt124.2.2 = true then (samphireref01_Read.l0 k x0 (wrap64 (x5 + 1)) bt124.1 bt124.2.1) else (some (0, 0, false))) else (some (0, 0, false)))) else (none)) else (none)))
end
def samphireref01_Read.f (k : Nat) (a0 : ByteArray) : Option (Int × Int × Bool) := if (a0.size : Int) = 0 then (samphireref01_Read.j0 k a0 true 0 0) else (if (a0.size : Int) > 39 then (samphireref01_Read.j0 k a0 true 0 0) else (if 0 < (a0.size : Int) then (if (bt a0 0) = 48 then (samphireref01_Read.j0 k a0 (decide ((a0.size : Int) > 1)) 0 0) else (samphireref01_Read.j0 k a0 false 0 0)) else (none)))
def samphireref01_Read.T10 : Bool × List (List Nat × List Nat) := (true, [([], []), ([], []), ([], []), ([1, 2], [1, 2]), ([3], [3]), ([4], [4]), ([5], [5]), ([0, 6], [0, 6]), ([7], [7]), ([8], [8]), ([8], [8]), ([], []), ([11, 9, 7, 0, 1, 2, 3, 4, 5, 6, 7, 8, 9, 11], [9, 11]), ([10, 12, 0, 1, 2, 3, 4, 5, 6, 7, 8, 9, 10, 11, 12], [10])])
def samphireref01_Read.B10 : List Nat := [0, 0, 0, 6, 14, 30, 62, 127, 255, 511, 511, 0, 3071, 8191]
theorem samphireref01_Read.tab10 : rtab .any (opsOf Try.f13 10) = samphireref01_Read.T10 := by kernel_rfl
theorem samphireref01_Read.bits10 : waitsOk samphireref01_Read.T10.2 samphireref01_Read.B10 = true := by kernel_rfl
set_option maxHeartbeats 8000000 in
set_option maxRecDepth 100000 in
theorem samphireref01_Read.calls (k : Nat) (a0 : ByteArray) (r1 : Int) (r2 : Int) (r3 : Bool) (w : World) (h : samphireref01_Read.f k a0 = some (r1, r2, r3)) :
  Calls Try.prog 13 #[.string a0] w fun e w' => e = .returned (.tuple #[.agg #[.int .u64 r1, .int .u64 r2], .bool r3]) ∧ Below w.heap.size w w' := by
 have hu24 := Try.underlying24
 have HB := Aside0.mk (Below.refl w.heap.size w)
 have H : (if (a0.size : Int) = 0 then (samphireref01_Read.j0 k a0 true 0 0) else (if (a0.size : Int) > 39 then (samphireref01_Read.j0 k a0 true 0 0) else (if 0 < (a0.size : Int) then (if (bt a0 0) = 48 then (samphireref01_Read.j0 k a0 (decide ((a0.size : Int) > 1)) 0 0) else (samphireref01_Read.j0 k a0 false 0 0)) else (none)))) = some (r1, r2, r3) := h
 clear h
 have HC2 := Aside0.mk H
 clear H
 go_enter Try.func13, Try.ntmps13
 go_upto_region 2 with (first | ((with_reducible refine gate_dst (N := 2) rfl ?_); (try (refine gate_guard (by rfl) ?_; dsimp only)); refine box_event ?hg (N := 2) ?hd (cs := #[.int .u64 0, .int .u64 0]) (t := 24) ?hr ?_; (case hd => rfl); (case hg => rfl); (case hr => first | (go_simp; done) | (go_simp; rfl)); intro gb118 hg w3 hbox hb; have n0_ := Aside0.mk (below_step (bW HB.out) hb); have n1_ := Aside0.mk (hbox); have n2_ := Aside0.mk ((by rw [hg]; exact (below_size (bW HB.out)) : w.heap.size ≤ gb118)); have n3_ := Aside0.mk ((by rw [hg]; exact (below_size (bW HB.out)) : w.heap.size ≤ gb118)); clear HB; have HB := n0_; have BK118 := n1_; have GW118 := n2_; have GE118 := n3_; clear n0_ n1_ n2_ n3_ hb hbox hg) | ((with_reducible refine gate_dst (N := 4) rfl ?_); (try (refine gate_guard (by rfl) ?_; dsimp only)); refine box_event ?hg (N := 4) ?hd (cs := #[.int .u64 0, .int .u64 0]) (t := 24) ?hr ?_; (case hd => rfl); (case hg => rfl); (case hr => first | (go_simp; done) | (go_simp; rfl)); intro gb119 hg w4 hbox hb; have n0_ := Aside0.mk (blk_below (bT BK118.out) hb); have n1_ := Aside0.mk (below_step (bW HB.out) hb); have n2_ := Aside0.mk (hbox); have n3_ := Aside0.mk ((by rw [hg]; exact (below_size (bW HB.out)) : w.heap.size ≤ gb119)); have n4_ := Aside0.mk ((by rw [hg]; exact (below_size (bW HB.out)) : w.heap.size ≤ gb119)); have n5_ := Aside0.mk ((by rw [hg]; exact Nat.ne_of_lt (blk_lt (bT BK118.out)) : gb118 ≠ gb119)); have n6_ := Aside0.mk ((by rw [hg]; exact Nat.ne_of_gt (blk_lt (bT BK118.out)) : gb119 ≠ gb118)); clear BK118 HB; have BK118 := n0_; have HB := n1_; have BK119 := n2_; have GW119 := n3_; have GE119 := n4_; have NB118_119 := n5_; have NB119_118 := n6_; clear n0_ n1_ n2_ n3_ n4_ n5_ n6_ hb hbox hg))
 (try simp only [Act.put, List.setIfInBounds_toArray, List.set_cons_zero, List.set_cons_succ])
 go_cut [27] (fun v27 wc => ∃ (kq : Nat) (x27_1 : Bool), v27 = .bool x27_1 ∧ Aside0 (samphireref01_Read.j0 kq a0 x27_1 0 0 = some (r1, r2, r3)) ∧ Aside0 (kq ≤ k) ∧ Aside0 (wc.heap[gb118]? = some (.cells #[.int .u64 0, .int .u64 0] 24 (0, 0))) ∧ Aside0 (wc.heap[gb119]? = some (.cells #[.int .u64 0, .int .u64 0] 24 (0, 0))) ∧ Aside0 (Below w.heap.size w wc))
 case first =>
  have H := HC2.out
  clear HC2
  by_cases c5 : (a0.size : Int) = 0
  ·
   rw [if_pos c5] at H
   have c5b0 : ((a0.size : Int) == 0) = true := beq_iff_eq.mpr c5
   have c5b1 : ((a0.size : Int) != 0) = false := bne_eq_false_iff_eq.mpr c5
   clear c5
   (first | rw [c5b0] | (simp only [i64_w, i32_w]; rw [c5b0]) | skip)
   have H' := Aside0.mk H
   clear H
   go_wp2
   go_meet
   case rel => exact ⟨_, (true), (by first | rfl | (simp; done) | (simp [*]; done)), H', ⟨by first | omega | exact Nat.le_refl _⟩, ⟨by (with_reducible repeat (first | refine blk_drewN ?_ _ | refine blk_drew ?_ | refine blk_alloc ?_ _)); exact BK118.out⟩, ⟨by (with_reducible repeat (first | refine blk_drewN ?_ _ | refine blk_drew ?_ | refine blk_alloc ?_ _)); exact BK119.out⟩, ⟨by repeat (first | (with_reducible first | exact HB.out | apply below_alloc | apply pw_below_drewN | apply below_drew1 | refine below_set ?_ GE118.out | refine below_set ?_ GE119.out) | exact HB.out)⟩⟩
  ·
   rw [if_neg c5] at H
   have c5b0 : ((a0.size : Int) == 0) = false := beq_eq_false_iff_ne.mpr c5
   have c5b1 : ((a0.size : Int) != 0) = true := bne_iff_ne.mpr c5
   (first | rw [c5b0] | (simp only [i64_w, i32_w]; rw [c5b0]) | skip)
   by_cases c6 : (a0.size : Int) > 39
   ·
    rw [if_pos c6] at H
    have c6b0 : decide (39 < (a0.size : Int)) = true := decide_eq_true c6
    have c6b1 : decide (39 < a0.size) = true := decide_eq_true (by omega)
    clear c6
    have H' := Aside0.mk H
    clear H
    go_wp2
    go_meet
    case rel => exact ⟨_, (true), (by first | rfl | (simp; done) | (simp [*]; done)), H', ⟨by first | omega | exact Nat.le_refl _⟩, ⟨by (with_reducible repeat (first | refine blk_drewN ?_ _ | refine blk_drew ?_ | refine blk_alloc ?_ _)); exact BK118.out⟩, ⟨by (with_reducible repeat (first | refine blk_drewN ?_ _ | refine blk_drew ?_ | refine blk_alloc ?_ _)); exact BK119.out⟩, ⟨by repeat (first | (with_reducible first | exact HB.out | apply below_alloc | apply pw_below_drewN | apply below_drew1 | refine below_set ?_ GE118.out | refine below_set ?_ GE119.out) | exact HB.out)⟩⟩
   ·
    rw [if_neg c6] at H
    have c6b0 : decide (39 < (a0.size : Int)) = false := decide_eq_false c6
    have c6b1 : decide (39 < a0.size) = false := decide_eq_false (by omega)
    clear c6
    by_cases c7 : 0 < (a0.size : Int)
    ·
     rw [if_pos c7] at H
     have c7b0 : decide (0 < (a0.size : Int)) = true := decide_eq_true c7
     have c7b1 : decide (0 < a0.size) = true := decide_eq_true (by omega)
     clear c7
     by_cases c9 : (bt a0 0) = 48
     ·
      rw [if_pos c9] at H
      have c9b0 : ((bt a0 0) == 48) = true := beq_iff_eq.mpr c9
      have c9b1 : ((bt a0 0) != 48) = false := bne_eq_false_iff_eq.mpr c9
      clear c9
      have H' := Aside0.mk H
      clear H
      have p8 : 0 ≤ (0 : Int) := (by omega)
      have q8 : 0 < a0.size := (by have : (0 : Int) < (a0.size : Int) := of_decide_eq_true (by first | (with_reducible assumption) | assumption); omega)
      have hx8 : ∀ h : 0 < a0.size, ((a0[0]'h).toNat : Int) = bt a0 0 := bt_at a0 0
      clear p8
      have qi8 : (0 < (a0.size : Int)) = True := eq_true (of_decide_eq_true (by first | (with_reducible assumption) | assumption))
      replace q8 := eq_true q8
      go_wp2
      go_meet
      case rel => exact ⟨_, (decide ((a0.size : Int) > 1)), (by first | rfl | (simp; done) | (simp [*]; done)), H', ⟨by first | omega | exact Nat.le_refl _⟩, ⟨by (with_reducible repeat (first | refine blk_drewN ?_ _ | refine blk_drew ?_ | refine blk_alloc ?_ _)); exact BK118.out⟩, ⟨by (with_reducible repeat (first | refine blk_drewN ?_ _ | refine blk_drew ?_ | refine blk_alloc ?_ _)); exact BK119.out⟩, ⟨by repeat (first | (with_reducible first | exact HB.out | apply below_alloc | apply pw_below_drewN | apply below_drew1 | refine below_set ?_ GE118.out | refine below_set ?_ GE119.out) | exact HB.out)⟩⟩
     ·
      rw [if_neg c9] at H
      have c9b0 : ((bt a0 0) == 48) = false := beq_eq_false_iff_ne.mpr c9
      have c9b1 : ((bt a0 0) != 48) = true := bne_iff_ne.mpr c9
      have H' := Aside0.mk H
      clear H
      have p8 : 0 ≤ (0 : Int) := (by omega)
      have q8 : 0 < a0.size := (by have : (0 : Int) < (a0.size : Int) := of_decide_eq_true (by first | (with_reducible assumption) | assumption); omega)
      have hx8 : ∀ h : 0 < a0.size, ((a0[0]'h).toNat : Int) = bt a0 0 := bt_at a0 0
      clear p8
      have qi8 : (0 < (a0.size : Int)) = True := eq_true (of_decide_eq_true (by first | (with_reducible assumption) | assumption))
      replace q8 := eq_true q8
      go_wp2
      go_meet
      case rel => exact ⟨_, (false), (by first | rfl | (simp; done) | (simp [*]; done)), H', ⟨by first | omega | exact Nat.le_refl _⟩, ⟨by (with_reducible repeat (first | refine blk_drewN ?_ _ | refine blk_drew ?_ | refine blk_alloc ?_ _)); exact BK118.out⟩, ⟨by (with_reducible repeat (first | refine blk_drewN ?_ _ | refine blk_drew ?_ | refine blk_alloc ?_ _)); exact BK119.out⟩, ⟨by repeat (first | (with_reducible first | exact HB.out | apply below_alloc | apply pw_below_drewN | apply below_drew1 | refine below_set ?_ GE118.out | refine below_set ?_ GE119.out) | exact HB.out)⟩⟩
    ·
     rw [if_neg c7] at H
     exact absurd H (by simp)
 case rest =>
  clear HC2
  try clear c1
  try clear p2
  try clear c5
  try clear c5b0
  try clear c5b1
  try clear c6
  try clear c6b0
  try clear c6b1
  try clear c7
  try clear c7b0
  try clear c7b1
  try clear p8
  try clear q8
  try clear hx8
  try clear qi8
  try clear c9
  try clear c9b0
  try clear c9b1
  try clear p8
  try clear q8
  obtain ⟨kq, x27_1, rfl, HA, HJ1, BK118, BK119, HB⟩ := hcut
  cases kq with
  | zero => exact absurd HA.out (by simp [samphireref01_Read.j0])
  | succ kj1 =>
   have H := HA.out
   clear HA
   simp only [samphireref01_Read.j0] at H
   by_cases c10 : x27_1 = true
   ·
    subst c10
    have H1 : (some (0, 0, false)) = some (r1, r2, r3) := by rw [if_pos rfl] at H; exact H
    clear H
    have H := H1
    clear H1
    simp only [Option.some.injEq, Prod.mk.injEq] at H
    obtain ⟨rfl, rfl, rfl⟩ := H
    have hnb11 := NB119_118.out
    have hnc11 := NB118_119.out
    have hcz12_0 : wc.cell? ⟨gb119, 0, none⟩ = some (.int .u64 0) := (blk_cell BK119.out 0).trans rfl
    have hcz12_1 : wc.cell? ⟨gb119, 1, none⟩ = some (.int .u64 0) := (blk_cell BK119.out 1).trans rfl
    have hfz12_0 := blk_frozen BK119.out 0
    have hfz12_1 := blk_frozen BK119.out 1
    have hcz13_0 : wc.cell? ⟨gb118, 0, none⟩ = some (.int .u64 0) := (blk_cell BK118.out 0).trans rfl
    have hcz13_1 : wc.cell? ⟨gb118, 1, none⟩ = some (.int .u64 0) := (blk_cell BK118.out 1).trans rfl
    have hfz13_0 := blk_frozen BK118.out 0
    have hfz13_1 := blk_frozen BK118.out 1
    go_wp2
    refine bodyPost_ret (results_ct rfl _ _ gb118 24 #[.int .u64 0, .int .u64 0] (0, 0) _ rfl (by (with_reducible repeat (first | refine blk_drewN ?_ _ | refine blk_drew ?_ | refine blk_alloc ?_ _)); refine blk_put (cs := #[.int .u64 0, .int .u64 0]) ?_ 1 _ rfl; (with_reducible repeat (first | refine blk_drewN ?_ _ | refine blk_drew ?_ | refine blk_alloc ?_ _)); refine blk_put (cs := #[.int .u64 0, .int .u64 0]) ?_ 0 _ rfl; (with_reducible repeat (first | refine blk_drewN ?_ _ | refine blk_drew ?_ | refine blk_alloc ?_ _)); exact BK118.out) Try.underlying24 rfl (by kernel_rfl)) rfl ?_
    exact ⟨by first | rfl | (simp [errW_none, errW_some] <;> rfl) | (simp [*, errW_none, errW_some] <;> rfl), by repeat (first | (with_reducible first | exact HB.out | apply below_alloc | apply pw_below_drewN | apply below_drew1 | refine below_set ?_ GE118.out | refine below_set ?_ GE119.out) | exact HB.out)⟩
   ·
    replace c10 := Bool.eq_false_iff.mpr c10
    subst c10
    have H1 : (samphireref01_Read.l0 kj1 a0 0 0 0) = some (r1, r2, r3) := by rw [if_neg (show ¬ (false = true) by decide)] at H; exact H
    clear H
    have H := H1
    clear H1
    have H' := Aside0.mk H
    clear H
    go_wp2
    go_loopg [5] kj1 (fun kq v5 w' => ∃ (x5_2 : Int) (x119000_2 : Int) (x119001_2 : Int) (x120000_2 : Int) (x120001_2 : Int), v5 = .int .i64 x5_2 ∧ Aside0 (samphireref01_Read.l0 kq a0 x5_2 x120000_2 x120001_2 = some (r1, r2, r3)) ∧ Aside0 (kq ≤ kj1) ∧ Aside0 (w'.heap[gb118]? = some (.cells #[.int .u64 x119000_2, .int .u64 x119001_2] 24 (0, 0))) ∧ Aside0 (w'.heap[gb119]? = some (.cells #[.int .u64 x120000_2, .int .u64 x120001_2] 24 (0, 0))) ∧ Aside0 (Below w.heap.size w w'))
    case atStart => exact ⟨(0), (0), (0), (0), (0), (by first | rfl | (simp; done) | (simp [*]; done)), H', ⟨Nat.le_refl _⟩, ⟨by (with_reducible repeat (first | refine blk_drewN ?_ _ | refine blk_drew ?_ | refine blk_alloc ?_ _)); exact BK118.out⟩, ⟨by (with_reducible repeat (first | refine blk_drewN ?_ _ | refine blk_drew ?_ | refine blk_alloc ?_ _)); exact BK119.out⟩, ⟨by repeat (first | (with_reducible first | exact HB.out | apply below_alloc | apply pw_below_drewN | apply below_drew1 | refine below_set ?_ GE118.out | refine below_set ?_ GE119.out) | exact HB.out)⟩⟩
    case round =>
     clear H'
     try clear c1
     try clear p2
     try clear c5
     try clear c5b0
     try clear c5b1
     try clear c6
     try clear c6b0
     try clear c6b1
     try clear c7
     try clear c7b0
     try clear c7b1
     try clear p8
     try clear q8
     try clear hx8
     try clear qi8
     try clear c9
     try clear c9b0
     try clear c9b1
     try clear c10
     try clear c11
     try clear c13
     try clear hcz12_0
     try clear hcz12_1
     try clear hcz13_0
     try clear hcz13_1
     try clear hfz12_0
     try clear hfz12_1
     try clear hfz13_0
     try clear hfz13_1
     try clear p2
     try clear p8
     try clear q8
     obtain ⟨x5_2, x119000_2, x119001_2, x120000_2, x120001_2, rfl, HA, HK2, BK118, BK119, HB⟩ := hrel
     cases gk with
     | zero => exact absurd HA.out (by simp [samphireref01_Read.l0])
     | succ k2 =>
      have H := HA.out
      clear HA
      simp only [samphireref01_Read.l0] at H
      by_cases c14 : x5_2 < (a0.size : Int)
      ·
       rw [if_pos c14] at H
       have c14b0 : decide (x5_2 < (a0.size : Int)) = true := decide_eq_true c14
       clear c14
       have HC15 := Aside0.mk H
       clear H
       go_upto_region 7 with (fail)
       go_cut [44] (fun v44 wc => ∃ (kq : Nat) (x44_14 : Bool), v44 = .bool x44_14 ∧ Aside0 (samphireref01_Read.j2 kq a0 x5_2 x44_14 x120000_2 x120001_2 = some (r1, r2, r3)) ∧ Aside0 (kq ≤ k2) ∧ Aside0 (wc.heap[gb118]? = some (.cells #[.int .u64 x119000_2, .int .u64 x119001_2] 24 (0, 0))) ∧ Aside0 (wc.heap[gb119]? = some (.cells #[.int .u64 x120000_2, .int .u64 x120001_2] 24 (0, 0))) ∧ Aside0 (Below w.heap.size w wc))
       case first =>
        have H := HC15.out
        clear HC15
        by_cases c16 : 0 ≤ x5_2
        ·
         rw [if_pos c16] at H
         have c16b0 : decide (0 ≤ x5_2) = true := decide_eq_true c16
         clear c16
         (first | rw [c16b0] | (simp only [i64_w, i32_w]; rw [c16b0]) | skip)
         by_cases c18 : (bt a0 x5_2) < 48
         ·
          rw [if_pos c18] at H
          have c18b0 : decide ((bt a0 x5_2) < 48) = true := decide_eq_true c18
          clear c18
          have H' := Aside0.mk H
          clear H
          have p17 : 0 ≤ (x5_2 : Int) := of_decide_eq_true (by first | (with_reducible assumption) | assumption)
          have q17 : x5_2 < (a0.size : Int) := of_decide_eq_true (by first | (with_reducible assumption) | assumption)
          have hx17 := bt_at a0 x5_2
          replace p17 := eq_true p17
          replace q17 := eq_true q17
          go_wp2
          go_meet
          case rel => exact ⟨_, (true), (by first | rfl | (simp; done) | (simp [*]; done)), H', ⟨by have := HJ1.out; have := HK2.out; first | omega | exact Nat.le_refl _⟩, ⟨by (with_reducible repeat (first | refine blk_drewN ?_ _ | refine blk_drew ?_ | refine blk_alloc ?_ _)); exact BK118.out⟩, ⟨by (with_reducible repeat (first | refine blk_drewN ?_ _ | refine blk_drew ?_ | refine blk_alloc ?_ _)); exact BK119.out⟩, ⟨by repeat (first | (with_reducible first | exact HB.out | apply below_alloc | apply pw_below_drewN | apply below_drew1 | refine below_set ?_ GE118.out | refine below_set ?_ GE119.out) | exact HB.out)⟩⟩
         ·
          rw [if_neg c18] at H
          have c18b0 : decide ((bt a0 x5_2) < 48) = false := decide_eq_false c18
          clear c18
          have H' := Aside0.mk H
          clear H
          have p17 : 0 ≤ (x5_2 : Int) := of_decide_eq_true (by first | (with_reducible assumption) | assumption)
          have q17 : x5_2 < (a0.size : Int) := of_decide_eq_true (by first | (with_reducible assumption) | assumption)
          have hx17 := bt_at a0 x5_2
          replace p17 := eq_true p17
          replace q17 := eq_true q17
          have p19 : 0 ≤ (x5_2 : Int) := of_decide_eq_true (by first | (with_reducible assumption) | assumption)
          have q19 : x5_2 < (a0.size : Int) := of_decide_eq_true (by first | (with_reducible assumption) | assumption)
          have hx19 := bt_at a0 x5_2
          replace p19 := eq_true p19
          replace q19 := eq_true q19
          go_wp2
          go_meet
          case rel => exact ⟨_, (decide ((bt a0 x5_2) > 57)), (by first | rfl | (simp; done) | (simp [*]; done)), H', ⟨by have := HJ1.out; have := HK2.out; first | omega | exact Nat.le_refl _⟩, ⟨by (with_reducible repeat (first | refine blk_drewN ?_ _ | refine blk_drew ?_ | refine blk_alloc ?_ _)); exact BK118.out⟩, ⟨by (with_reducible repeat (first | refine blk_drewN ?_ _ | refine blk_drew ?_ | refine blk_alloc ?_ _)); exact BK119.out⟩, ⟨by repeat (first | (with_reducible first | exact HB.out | apply below_alloc | apply pw_below_drewN | apply below_drew1 | refine below_set ?_ GE118.out | refine below_set ?_ GE119.out) | exact HB.out)⟩⟩
        ·
         rw [if_neg c16] at H
         exact absurd H (by simp)
       case rest =>
        clear HC15
        try clear c1
        try clear p1
        try clear q1
        try clear hx1
        try clear p2
        try clear c5
        try clear c5b0
        try clear c5b1
        try clear c6
        try clear c6b0
        try clear c6b1
        try clear c7
        try clear c7b0
        try clear c7b1
        try clear p8
        try clear q8
        try clear hx8
        try clear qi8
        try clear c9
        try clear c9b0
        try clear c9b1
        try clear c10
        try clear c11
        try clear c13
        try clear c14
        try clear c14b0
        try clear c16
        try clear c16b0
        try clear p17
        try clear q17
        try clear hx17
        try clear c18
        try clear c18b0
        try clear p19
        try clear q19
        try clear hx19
        try clear hcz12_0
        try clear hcz12_1
        try clear hcz13_0
        try clear hcz13_1
        try clear hfz12_0
        try clear hfz12_1
        try clear hfz13_0
        try clear hfz13_1
        try clear p17
        try clear p19
        try clear p2
        try clear p8
        try clear q17
        try clear q19
        try clear q8
        obtain ⟨kq, x44_14, rfl, HA, HJ14, BK118, BK119, HB⟩ := hcut
        cases kq with
        | zero => exact absurd HA.out (by simp [samphireref01_Read.j2])
        | succ kj14 =>
         have H := HA.out
         clear HA
         simp only [samphireref01_Read.j2] at H
         by_cases c20 : x44_14 = true
         ·
          subst c20
          have H1 : (some (0, 0, false)) = some (r1, r2, r3) := by rw [if_pos rfl] at H; exact H
          clear H
          have H := H1
          clear H1
          simp only [Option.some.injEq, Prod.mk.injEq] at H
          obtain ⟨rfl, rfl, rfl⟩ := H
          have hnb21 := NB118_119.out
          have hnc21 := NB119_118.out
          have hcz22_0 : wc.cell? ⟨gb118, 0, none⟩ = some (.int .u64 x119000_2) := (blk_cell BK118.out 0).trans rfl
          have hcz22_1 : wc.cell? ⟨gb118, 1, none⟩ = some (.int .u64 x119001_2) := (blk_cell BK118.out 1).trans rfl
          have hfz22_0 := blk_frozen BK118.out 0
          have hfz22_1 := blk_frozen BK118.out 1
          go_wp2
          refine bodyPost_ret (results_ct rfl _ _ gb118 24 #[.int .u64 0, .int .u64 0] (0, 0) _ rfl (by (with_reducible repeat (first | refine blk_drewN ?_ _ | refine blk_drew ?_ | refine blk_alloc ?_ _)); refine blk_put (cs := #[.int .u64 0, .int .u64 x119001_2]) ?_ 1 _ rfl; (with_reducible repeat (first | refine blk_drewN ?_ _ | refine blk_drew ?_ | refine blk_alloc ?_ _)); refine blk_put (cs := #[.int .u64 x119000_2, .int .u64 x119001_2]) ?_ 0 _ rfl; (with_reducible repeat (first | refine blk_drewN ?_ _ | refine blk_drew ?_ | refine blk_alloc ?_ _)); exact BK118.out) Try.underlying24 rfl (by kernel_rfl)) rfl ?_
          exact ⟨by first | rfl | (simp [errW_none, errW_some] <;> rfl) | (simp [*, errW_none, errW_some] <;> rfl), by repeat (first | (with_reducible first | exact HB.out | apply below_alloc | apply pw_below_drewN | apply below_drew1 | refine below_set ?_ GE118.out | refine below_set ?_ GE119.out) | exact HB.out)⟩
         ·
          replace c20 := Bool.eq_false_iff.mpr c20
          subst c20
          have H1 : ((samphireref01_Mul.f x120000_2 x120001_2 0 10).bind fun bt120 => (if 0 ≤ x5_2 then (if x5_2 < (a0.size : Int) then ((samphireref01_Add.f bt120.1 bt120.2.1 0 (((bt a0 x5_2) - 48) % 256)).bind fun bt124 => (if bt120.2.2 = true then (if bt124.2.2 = true then (samphireref01_Read.l0 kj14 a0 (wrap64 (x5_2 + 1)) bt124.1 bt124.2.1) else (some (0, 0, false))) else (some (0, 0, false)))) else (none)) else (none))) = some (r1, r2, r3) := by rw [if_neg (show ¬ (false = true) by decide)] at H; exact H
          clear H
          have H := H1
          clear H1
          replace H := Option.bind_eq_some_iff.mp H
          obtain ⟨⟨t120, t121, t122⟩, A230, H⟩ := H
          replace H : (if 0 ≤ x5_2 then (if x5_2 < (a0.size : Int) then ((samphireref01_Add.f t120 t121 0 (((bt a0 x5_2) - 48) % 256)).bind fun bt124 => (if t122 = true then (if bt124.2.2 = true then (samphireref01_Read.l0 kj14 a0 (wrap64 (x5_2 + 1)) bt124.1 bt124.2.1) else (some (0, 0, false))) else (some (0, 0, false)))) else (none)) else (none)) = some (r1, r2, r3) := H
          have A23 := Aside0.mk A230
          clear A230
          by_cases c24 : 0 ≤ x5_2
          ·
           rw [if_pos c24] at H
           have c24b0 : decide (0 ≤ x5_2) = true := decide_eq_true c24
           clear c24
           by_cases c25 : x5_2 < (a0.size : Int)
           ·
            rw [if_pos c25] at H
            have c25b0 : decide (x5_2 < (a0.size : Int)) = true := decide_eq_true c25
            clear c25
            replace H := Option.bind_eq_some_iff.mp H
            obtain ⟨⟨t124, t125, t126⟩, A270, H⟩ := H
            replace H : (if t122 = true then (if t126 = true then (samphireref01_Read.l0 kj14 a0 (wrap64 (x5_2 + 1)) t124 t125) else (some (0, 0, false))) else (some (0, 0, false))) = some (r1, r2, r3) := H
            have A27 := Aside0.mk A270
            clear A270
            by_cases c28 : t122 = true
            ·
             subst c28
             have H1 : (if t126 = true then (samphireref01_Read.l0 kj14 a0 (wrap64 (x5_2 + 1)) t124 t125) else (some (0, 0, false))) = some (r1, r2, r3) := by rw [if_pos rfl] at H; exact H
             clear H
             have H := H1
             clear H1
             by_cases c29 : t126 = true
             ·
              subst c29
              have H1 : (samphireref01_Read.l0 kj14 a0 (wrap64 (x5_2 + 1)) t124 t125) = some (r1, r2, r3) := by rw [if_pos rfl] at H; exact H
              clear H
              have H := H1
              clear H1
              have H' := Aside0.mk H
              clear H
              have hnb30 := NB119_118.out
              have hnc30 := NB118_119.out
              have hcz31_0 : wc.cell? ⟨gb119, 0, none⟩ = some (.int .u64 x120000_2) := (blk_cell BK119.out 0).trans rfl
              have hcz31_1 : wc.cell? ⟨gb119, 1, none⟩ = some (.int .u64 x120001_2) := (blk_cell BK119.out 1).trans rfl
              have hfz31_0 := blk_frozen BK119.out 0
              have hfz31_1 := blk_frozen BK119.out 1
              try go_wp2_with (first | ((with_reducible refine gate_callee (f := 26) rfl ?_); refine goesL_ (some 49) rfl rfl Try.func26 (by kernel_rfl) rfl #[.agg #[.int .u64 x120000_2, .int .u64 x120001_2], .agg #[.int .u64 0, .int .u64 10]] rfl (by (try simp only [List.map_toArray, List.map_cons, List.map_nil]); first | done | rfl | (simp only [List.length_drop, List.length_take]; rfl)) ?_; (with_reducible refine (samphireref01_Mul.calls x120000_2 x120001_2 0 10 t120 t121 true _ A23.out).mono ?_); rintro e w32 ⟨rfl, hb⟩; refine ⟨_, rfl, ?_⟩; have n0_ := Aside0.mk (blk_below (bT BK118.out) hb); have n1_ := Aside0.mk (blk_below (bT BK119.out) hb); have n2_ := Aside0.mk (below_step (bW HB.out) hb); clear BK118 BK119 HB; have BK118 := n0_; have BK119 := n1_; have HB := n2_; clear n0_ n1_ n2_; (try clear hb); (try clear hb2); (try clear hk); (try clear hi)) | ((with_reducible refine gate_dst (N := 6) rfl ?_); (try (refine gate_guard (by rfl) ?_; dsimp only)); refine box_event ?hg (N := 6) ?hd (cs := #[.int .u64 0, .int .u64 0]) (t := 24) ?hr ?_; (case hd => rfl); (case hg => rfl); (case hr => first | (go_simp; done) | (go_simp; rfl)); intro gb123 hg w33 hbox hb; have n0_ := Aside0.mk (blk_below (bT BK118.out) hb); have n1_ := Aside0.mk (blk_below (bT BK119.out) hb); have n2_ := Aside0.mk (below_step (bW HB.out) hb); have n3_ := Aside0.mk (hbox); have n4_ := Aside0.mk ((by rw [hg]; exact (below_size (bW HB.out)) : w.heap.size ≤ gb123)); have n5_ := Aside0.mk ((by rw [hg]; exact (below_size (bW HB.out)) : w.heap.size ≤ gb123)); have n6_ := Aside0.mk ((by rw [hg]; exact Nat.ne_of_lt (blk_lt (bT BK118.out)) : gb118 ≠ gb123)); have n7_ := Aside0.mk ((by rw [hg]; exact Nat.ne_of_gt (blk_lt (bT BK118.out)) : gb123 ≠ gb118)); have n8_ := Aside0.mk ((by rw [hg]; exact Nat.ne_of_lt (blk_lt (bT BK119.out)) : gb119 ≠ gb123)); have n9_ := Aside0.mk ((by rw [hg]; exact Nat.ne_of_gt (blk_lt (bT BK119.out)) : gb123 ≠ gb119)); clear BK118 BK119 HB; have BK118 := n0_; have BK119 := n1_; have HB := n2_; have BK123 := n3_; have GW123 := n4_; have GE123 := n5_; have NB118_123 := n6_; have NB123_118 := n7_; have NB119_123 := n8_; have NB123_119 := n9_; clear n0_ n1_ n2_ n3_ n4_ n5_ n6_ n7_ n8_ n9_ hb hbox hg; have hnb34 := NB123_118.out; have hnc34 := NB118_123.out; have hnb35 := NB123_119.out; have hnc35 := NB119_123.out; have hcz36_0 : w33.cell? ⟨gb123, 0, none⟩ = some (.int .u64 0) := (blk_cell BK123.out 0).trans rfl; have hcz36_1 : w33.cell? ⟨gb123, 1, none⟩ = some (.int .u64 0) := (blk_cell BK123.out 1).trans rfl; have hfz36_0 := blk_frozen BK123.out 0; have hfz36_1 := blk_frozen BK123.out 1))
              have n0_ : Aside0 (((w33.setCell ⟨gb123, 0, none⟩ (.int .u64 t120)).setCell ⟨gb123, 1, none⟩ (.int .u64 t121)).heap[gb118]? = some (.cells #[.int .u64 x119000_2, .int .u64 x119001_2] 24 (0, 0))) := ⟨by (with_reducible repeat (first | refine blk_drewN ?_ _ | refine blk_drew ?_ | refine blk_alloc ?_ _)); refine blk_far ?_ NB118_123.out _; (with_reducible repeat (first | refine blk_drewN ?_ _ | refine blk_drew ?_ | refine blk_alloc ?_ _)); refine blk_far ?_ NB118_123.out _; (with_reducible repeat (first | refine blk_drewN ?_ _ | refine blk_drew ?_ | refine blk_alloc ?_ _)); exact BK118.out⟩
              have n1_ : Aside0 (((w33.setCell ⟨gb123, 0, none⟩ (.int .u64 t120)).setCell ⟨gb123, 1, none⟩ (.int .u64 t121)).heap[gb119]? = some (.cells #[.int .u64 x120000_2, .int .u64 x120001_2] 24 (0, 0))) := ⟨by (with_reducible repeat (first | refine blk_drewN ?_ _ | refine blk_drew ?_ | refine blk_alloc ?_ _)); refine blk_far ?_ NB119_123.out _; (with_reducible repeat (first | refine blk_drewN ?_ _ | refine blk_drew ?_ | refine blk_alloc ?_ _)); refine blk_far ?_ NB119_123.out _; (with_reducible repeat (first | refine blk_drewN ?_ _ | refine blk_drew ?_ | refine blk_alloc ?_ _)); exact BK119.out⟩
              have n2_ : Aside0 (((w33.setCell ⟨gb123, 0, none⟩ (.int .u64 t120)).setCell ⟨gb123, 1, none⟩ (.int .u64 t121)).heap[gb123]? = some (.cells #[.int .u64 t120, .int .u64 t121] 24 (0, 0))) := ⟨by (with_reducible repeat (first | refine blk_drewN ?_ _ | refine blk_drew ?_ | refine blk_alloc ?_ _)); refine blk_put (cs := #[.int .u64 t120, .int .u64 0]) ?_ 1 _ rfl; (with_reducible repeat (first | refine blk_drewN ?_ _ | refine blk_drew ?_ | refine blk_alloc ?_ _)); refine blk_put (cs := #[.int .u64 0, .int .u64 0]) ?_ 0 _ rfl; (with_reducible repeat (first | refine blk_drewN ?_ _ | refine blk_drew ?_ | refine blk_alloc ?_ _)); exact BK123.out⟩
              have n3_ : Aside0 (Below w.heap.size w ((w33.setCell ⟨gb123, 0, none⟩ (.int .u64 t120)).setCell ⟨gb123, 1, none⟩ (.int .u64 t121))) := ⟨by repeat (first | (with_reducible first | exact HB.out | apply below_alloc | apply pw_below_drewN | apply below_drew1 | refine below_set ?_ GE118.out | refine below_set ?_ GE119.out | refine below_set ?_ GE123.out) | exact HB.out)⟩
              (try clear BK118)
              (try clear BK119)
              (try clear BK123)
              (try clear HB)
              generalize ((w33.setCell ⟨gb123, 0, none⟩ (.int .u64 t120)).setCell ⟨gb123, 1, none⟩ (.int .u64 t121)) = w37 at n0_ n1_ n2_ n3_ ⊢
              have BK118 := n0_
              have BK119 := n1_
              have BK123 := n2_
              have HB := n3_
              clear n0_ n1_ n2_ n3_
              have n0_ := Aside0.mk (blk_drew BK118.out)
              have n1_ := Aside0.mk (blk_drew BK119.out)
              have n2_ := Aside0.mk (blk_drew BK123.out)
              have n3_ := Aside0.mk (below_drew1 HB.out)
              clear BK118 BK119 BK123 HB
              have BK118 := n0_
              have BK119 := n1_
              have BK123 := n2_
              have HB := n3_
              clear n0_ n1_ n2_ n3_
              have p26 : 0 ≤ (x5_2 : Int) := of_decide_eq_true (by first | (with_reducible assumption) | assumption)
              have q26 : x5_2 < (a0.size : Int) := of_decide_eq_true (by first | (with_reducible assumption) | assumption)
              have hx26 := bt_at a0 x5_2
              replace p26 := eq_true p26
              replace q26 := eq_true q26
              refine start_ (n := 14) (S := fun w' => w'.cell? ⟨gb123, 0, none⟩ = some (.int .u64 t120) ∧ w'.cell? ⟨gb123, 1, none⟩ = some (.int .u64 t121)) (ds := []) #[false, false, false, false, false, false, false, false, false, false, false, false, false, false] (by kernel_rfl) rfl rfl ⟨(blk_cell BK123.out 0).trans rfl, (blk_cell BK123.out 1).trans rfl⟩ (fun hHeld => ?_); refine with_tabW samphireref01_Read.tab10 samphireref01_Read.bits10 (fun HT_ HW_ => ?_)
              generalize w37.drew = w38 at BK118 BK119 BK123 HB hHeld ⊢
              refine pure_ (i := 1) (N := some 54) (v := ?_) (a' := ?_) #[false, true, false, false, false, false, false, false, false, false, false, false, false, false] rfl rfl (any_of HT_.out (by kernel_rfl)) (fun _ _ _ h => h) (Or.inl ⟨by rfl, ?_⟩) ?_ ?_
              rotate_left
              ·
               intro w'
               go_simp
               with_reducible rfl
              rotate_left
              ·
               simp only [Act.put, List.setIfInBounds_toArray, List.set_cons_zero, List.set_cons_succ, i64_w, i32_w]
               rfl
              refine pure_ (i := 2) (N := some 55) (v := ?_) (a' := ?_) #[false, true, true, false, false, false, false, false, false, false, false, false, false, false] rfl rfl (any_of HT_.out (by kernel_rfl)) (fun _ _ _ h => h) (Or.inl ⟨by rfl, ?_⟩) ?_ ?_
              rotate_left
              ·
               intro w'
               go_simp
               with_reducible rfl
              rotate_left
              ·
               simp only [Act.put, List.setIfInBounds_toArray, List.set_cons_zero, List.set_cons_succ, i64_w, i32_w]
               rfl
              refine take_ (i := 0) (N := some 53) (v := ?_) (a' := ?_) #[true, true, true, false, false, false, false, false, false, false, false, false, false, false] rfl rfl (take_ofW HT_.out HW_.out (by kernel_rfl)) (fun _ _ _ h => h) (Or.inl ⟨by rfl, ?_⟩) hHeld ?_ ?_
              rotate_left
              ·
               rintro w' ⟨s0, s1⟩
               go_simp
               with_reducible rfl
              rotate_left
              ·
               simp only [Act.put, List.setIfInBounds_toArray, List.set_cons_zero, List.set_cons_succ, i64_w, i32_w]
               rfl
              refine take_ (i := 3) (N := some 56) (v := ?_) (a' := ?_) #[true, true, true, true, false, false, false, false, false, false, false, false, false, false] rfl rfl (take_ofW HT_.out HW_.out (by kernel_rfl)) (fun _ _ _ h => h) (Or.inl ⟨by rfl, ?_⟩) hHeld ?_ ?_
              rotate_left
              ·
               rintro w' ⟨s0, s1⟩
               go_simp
               with_reducible rfl
              rotate_left
              ·
               simp only [Act.put, List.setIfInBounds_toArray, List.set_cons_zero, List.set_cons_succ, i64_w, i32_w]
               rfl
              refine pure_ (i := 4) (N := some 57) (v := ?_) (a' := ?_) #[true, true, true, true, true, false, false, false, false, false, false, false, false, false] rfl rfl (any_of HT_.out (by kernel_rfl)) (fun _ _ _ h => h) (Or.inl ⟨by rfl, ?_⟩) ?_ ?_
              rotate_left
              ·
               intro w'
               go_simp
               with_reducible rfl
              rotate_left
              ·
               simp only [Act.put, List.setIfInBounds_toArray, List.set_cons_zero, List.set_cons_succ, i64_w, i32_w]
               rfl
              refine pure_ (i := 5) (N := some 58) (v := ?_) (a' := ?_) #[true, true, true, true, true, true, false, false, false, false, false, false, false, false] rfl rfl (any_of HT_.out (by kernel_rfl)) (fun _ _ _ h => h) (Or.inl ⟨by rfl, ?_⟩) ?_ ?_
              rotate_left
              ·
               intro w'
               go_simp
               with_reducible rfl
              rotate_left
              ·
               simp only [Act.put, List.setIfInBounds_toArray, List.set_cons_zero, List.set_cons_succ, i64_w, i32_w]
               rfl
              refine pure_ (i := 6) (N := some 59) (v := ?_) (a' := ?_) #[true, true, true, true, true, true, true, false, false, false, false, false, false, false] rfl rfl (any_of HT_.out (by kernel_rfl)) (fun _ _ _ h => h) (Or.inl ⟨by rfl, ?_⟩) ?_ ?_
              rotate_left
              ·
               intro w'
               go_simp
               with_reducible rfl
              rotate_left
              ·
               simp only [Act.put, List.setIfInBounds_toArray, List.set_cons_zero, List.set_cons_succ, i64_w, i32_w]
               rfl
              refine join_ (σ := Nat) 2 #[true, true, true, true, true, true, true, true, true, true, true, true, false, false] (fun s_ => [(60, .tuple #[.agg #[.int .u64 t124, .int .u64 t125], .bool true]), (8, .pointer (some ⟨s_, 0, none⟩)), (52, .tuple #[.agg #[.int .u64 t124, .int .u64 t125], .bool true]), (61, .agg #[.int .u64 t124, .int .u64 t125]), (62, .bool true)]) (fun s_ w' => (w'.cell? ⟨gb123, 0, none⟩ = some (.int .u64 t120) ∧ w'.cell? ⟨gb123, 1, none⟩ = some (.int .u64 t121)) ∧ (w'.heap[gb118]? = some (.cells #[.int .u64 x119000_2, .int .u64 x119001_2] 24 (0, 0))) ∧ (w'.heap[gb119]? = some (.cells #[.int .u64 x120000_2, .int .u64 x120001_2] 24 (0, 0))) ∧ (w'.heap[gb123]? = some (.cells #[.int .u64 t120, .int .u64 t121] 24 (0, 0))) ∧ (w'.heap[s_]? = some (.cells #[.int .u64 0, .int .u64 0] 24 (0, 0))) ∧ (w.heap.size ≤ s_) ∧ (w.heap.size ≤ s_) ∧ (gb118 ≠ s_) ∧ (s_ ≠ gb118) ∧ (gb119 ≠ s_) ∧ (s_ ≠ gb119) ∧ (gb123 ≠ s_) ∧ (s_ ≠ gb123) ∧ (Below w.heap.size w w')) ?_ ?_
              rotate_left
              ·
               intro hCont
               refine two_ (i := 7) (j := 11) (Ni := some 60) (Nj := some 8) #[true, true, true, true, true, true, true, true, false, false, false, false, false, false] #[true, true, true, true, true, true, true, false, false, false, false, true, false, false] rfl rfl rfl rfl (two_of HT_.out (by kernel_rfl)) (by decide) (by decide) (fun K hK => ?_) (fun K hK => ?_)
               ·
                skip
                refine goes_ Try.func21 (by kernel_rfl) rfl #[.agg #[.int .u64 t120, .int .u64 t121], .agg #[.int .u64 0, .int .u64 (((bt a0 x5_2) - 48) % 256)]] (by rfl) rfl rfl (by (try simp only [List.map_toArray, List.map_cons, List.map_nil]); first | done | rfl | (simp [Act.eval]; rw [D.wrapE, u8wr]; omega)) ?_
                with_reducible refine (samphireref01_Add.calls t120 t121 0 (((bt a0 x5_2) - 48) % 256) t124 t125 true _ A27.out).mono ?_
                rintro e w39 ⟨rfl, hb⟩
                refine ⟨_, rfl, ?_⟩
                have n0_ := Aside0.mk (blk_below (bT BK118.out) hb)
                have n1_ := Aside0.mk (blk_below (bT BK119.out) hb)
                have n2_ := Aside0.mk (blk_below (bT BK123.out) hb)
                have n3_ := Aside0.mk (below_step (bW HB.out) hb)
                clear BK118 BK119 BK123 HB
                have BK118 := n0_
                have BK119 := n1_
                have BK123 := n2_
                have HB := n3_
                clear n0_ n1_ n2_ n3_
                (try clear hb)
                (try clear hb2)
                (try clear hk)
                (try clear hi)
                refine hK.out _ _ ⟨(blk_cell BK123.out 0).trans rfl, (blk_cell BK123.out 1).trans rfl⟩ (fun hHeld => ?_)
                clear hK K
                refine norm_ (a' := ?_) ?_ ?_
                rotate_left
                ·
                 show Act.put _ (some 60) _ = _
                 simp only [Act.put, List.setIfInBounds_toArray, List.set_cons_zero, List.set_cons_succ, i64_w, i32_w]
                 rfl
                refine pure_ (i := 8) (N := some 52) (v := ?_) (a' := ?_) #[true, true, true, true, true, true, true, true, true, false, false, false, false, false] rfl rfl (any_of HT_.out (by kernel_rfl)) (fun _ _ _ h => h) (Or.inl ⟨by rfl, ?_⟩) ?_ ?_
                rotate_left
                ·
                 intro w'
                 go_simp
                 with_reducible rfl
                rotate_left
                ·
                 simp only [Act.put, List.setIfInBounds_toArray, List.set_cons_zero, List.set_cons_succ, i64_w, i32_w]
                 rfl
                refine pure_ (i := 9) (N := some 61) (v := ?_) (a' := ?_) #[true, true, true, true, true, true, true, true, true, true, false, false, false, false] rfl rfl (any_of HT_.out (by kernel_rfl)) (fun _ _ _ h => h) (Or.inl ⟨by rfl, ?_⟩) ?_ ?_
                rotate_left
                ·
                 intro w'
                 go_simp
                 with_reducible rfl
                rotate_left
                ·
                 simp only [Act.put, List.setIfInBounds_toArray, List.set_cons_zero, List.set_cons_succ, i64_w, i32_w]
                 rfl
                refine pure_ (i := 10) (N := some 62) (v := ?_) (a' := ?_) #[true, true, true, true, true, true, true, true, true, true, true, false, false, false] rfl rfl (any_of HT_.out (by kernel_rfl)) (fun _ _ _ h => h) (Or.inl ⟨by rfl, ?_⟩) ?_ ?_
                rotate_left
                ·
                 intro w'
                 go_simp
                 with_reducible rfl
                rotate_left
                ·
                 simp only [Act.put, List.setIfInBounds_toArray, List.set_cons_zero, List.set_cons_succ, i64_w, i32_w]
                 rfl
                refine one_ (i := 11) (N := some 8) #[true, true, true, true, true, true, true, true, true, true, true, true, false, false] rfl rfl (one_of HT_.out (by kernel_rfl)) (by decide) (fun K hK => ?_)
                refine box_step ?hg (N := 8) ?hd (cs := #[.int .u64 0, .int .u64 0]) (t := 24) ?hr ?_; (case hd => rfl); (case hg => rfl); (case hr => first | (go_simp; done) | (go_simp; rfl))
                intro gb127 hg w40 hbox hb
                have n0_ := Aside0.mk (blk_below (bT BK118.out) hb)
                have n1_ := Aside0.mk (blk_below (bT BK119.out) hb)
                have n2_ := Aside0.mk (blk_below (bT BK123.out) hb)
                have n3_ := Aside0.mk (below_step (bW HB.out) hb)
                have n4_ := Aside0.mk (hbox)
                have n5_ := Aside0.mk ((by rw [hg]; exact (below_size (bW HB.out)) : w.heap.size ≤ gb127))
                have n6_ := Aside0.mk ((by rw [hg]; exact (below_size (bW HB.out)) : w.heap.size ≤ gb127))
                have n7_ := Aside0.mk ((by rw [hg]; exact Nat.ne_of_lt (blk_lt (bT BK118.out)) : gb118 ≠ gb127))
                have n8_ := Aside0.mk ((by rw [hg]; exact Nat.ne_of_gt (blk_lt (bT BK118.out)) : gb127 ≠ gb118))
                have n9_ := Aside0.mk ((by rw [hg]; exact Nat.ne_of_lt (blk_lt (bT BK119.out)) : gb119 ≠ gb127))
                have n10_ := Aside0.mk ((by rw [hg]; exact Nat.ne_of_gt (blk_lt (bT BK119.out)) : gb127 ≠ gb119))
                have n11_ := Aside0.mk ((by rw [hg]; exact Nat.ne_of_lt (blk_lt (bT BK123.out)) : gb123 ≠ gb127))
                have n12_ := Aside0.mk ((by rw [hg]; exact Nat.ne_of_gt (blk_lt (bT BK123.out)) : gb127 ≠ gb123))
                clear BK118 BK119 BK123 HB
                have BK118 := n0_
                have BK119 := n1_
                have BK123 := n2_
                have HB := n3_
                have BK127 := n4_
                have GW127 := n5_
                have GE127 := n6_
                have NB118_127 := n7_
                have NB127_118 := n8_
                have NB119_127 := n9_
                have NB127_119 := n10_
                have NB123_127 := n11_
                have NB127_123 := n12_
                clear n0_ n1_ n2_ n3_ n4_ n5_ n6_ n7_ n8_ n9_ n10_ n11_ n12_ hb hbox hg
                refine hK.out _ _ ⟨(blk_cell BK123.out 0).trans rfl, (blk_cell BK123.out 1).trans rfl⟩ (fun hHeld => ?_)
                clear hK K
                refine norm_ (a' := ?_) ?_ ?_
                rotate_left
                ·
                 show Act.put _ (some 8) _ = _
                 simp only [Act.put, List.setIfInBounds_toArray, List.set_cons_zero, List.set_cons_succ, i64_w, i32_w]
                 rfl
                exact norm_ (by simp only [putAll, Act.put, List.setIfInBounds_toArray, List.set_cons_zero, List.set_cons_succ]) (hCont (gb127) _ ⟨hHeld, (bT BK118.out), (bT BK119.out), (bT BK123.out), (bT BK127.out), GW127.out, GE127.out, NB118_127.out, NB127_118.out, NB119_127.out, NB127_119.out, NB123_127.out, NB127_123.out, (bW HB.out)⟩)
               ·
                skip
                refine box_step ?hg (N := 8) ?hd (cs := #[.int .u64 0, .int .u64 0]) (t := 24) ?hr ?_; (case hd => rfl); (case hg => rfl); (case hr => first | (go_simp; done) | (go_simp; rfl))
                intro gb127 hg w39 hbox hb
                have n0_ := Aside0.mk (blk_below (bT BK118.out) hb)
                have n1_ := Aside0.mk (blk_below (bT BK119.out) hb)
                have n2_ := Aside0.mk (blk_below (bT BK123.out) hb)
                have n3_ := Aside0.mk (below_step (bW HB.out) hb)
                have n4_ := Aside0.mk (hbox)
                have n5_ := Aside0.mk ((by rw [hg]; exact (below_size (bW HB.out)) : w.heap.size ≤ gb127))
                have n6_ := Aside0.mk ((by rw [hg]; exact (below_size (bW HB.out)) : w.heap.size ≤ gb127))
                have n7_ := Aside0.mk ((by rw [hg]; exact Nat.ne_of_lt (blk_lt (bT BK118.out)) : gb118 ≠ gb127))
                have n8_ := Aside0.mk ((by rw [hg]; exact Nat.ne_of_gt (blk_lt (bT BK118.out)) : gb127 ≠ gb118))
                have n9_ := Aside0.mk ((by rw [hg]; exact Nat.ne_of_lt (blk_lt (bT BK119.out)) : gb119 ≠ gb127))
                have n10_ := Aside0.mk ((by rw [hg]; exact Nat.ne_of_gt (blk_lt (bT BK119.out)) : gb127 ≠ gb119))
                have n11_ := Aside0.mk ((by rw [hg]; exact Nat.ne_of_lt (blk_lt (bT BK123.out)) : gb123 ≠ gb127))
                have n12_ := Aside0.mk ((by rw [hg]; exact Nat.ne_of_gt (blk_lt (bT BK123.out)) : gb127 ≠ gb123))
                clear BK118 BK119 BK123 HB
                have BK118 := n0_
                have BK119 := n1_
                have BK123 := n2_
                have HB := n3_
                have BK127 := n4_
                have GW127 := n5_
                have GE127 := n6_
                have NB118_127 := n7_
                have NB127_118 := n8_
                have NB119_127 := n9_
                have NB127_119 := n10_
                have NB123_127 := n11_
                have NB127_123 := n12_
                clear n0_ n1_ n2_ n3_ n4_ n5_ n6_ n7_ n8_ n9_ n10_ n11_ n12_ hb hbox hg
                refine hK.out _ _ ⟨(blk_cell BK123.out 0).trans rfl, (blk_cell BK123.out 1).trans rfl⟩ (fun hHeld => ?_)
                clear hK K
                refine norm_ (a' := ?_) ?_ ?_
                rotate_left
                ·
                 show Act.put _ (some 8) _ = _
                 simp only [Act.put, List.setIfInBounds_toArray, List.set_cons_zero, List.set_cons_succ, i64_w, i32_w]
                 rfl
                refine one_ (i := 7) (N := some 60) #[true, true, true, true, true, true, true, true, false, false, false, true, false, false] rfl rfl (one_of HT_.out (by kernel_rfl)) (by decide) (fun K hK => ?_)
                refine goes_ Try.func21 (by kernel_rfl) rfl #[.agg #[.int .u64 t120, .int .u64 t121], .agg #[.int .u64 0, .int .u64 (((bt a0 x5_2) - 48) % 256)]] (by rfl) rfl rfl (by (try simp only [List.map_toArray, List.map_cons, List.map_nil]); first | done | rfl | (simp [Act.eval]; rw [D.wrapE, u8wr]; omega)) ?_
                with_reducible refine (samphireref01_Add.calls t120 t121 0 (((bt a0 x5_2) - 48) % 256) t124 t125 true _ A27.out).mono ?_
                rintro e w40 ⟨rfl, hb⟩
                refine ⟨_, rfl, ?_⟩
                have n0_ := Aside0.mk (blk_below (bT BK118.out) hb)
                have n1_ := Aside0.mk (blk_below (bT BK119.out) hb)
                have n2_ := Aside0.mk (blk_below (bT BK123.out) hb)
                have n3_ := Aside0.mk (blk_below (bT BK127.out) hb)
                have n4_ := Aside0.mk (below_step (bW HB.out) hb)
                clear BK118 BK119 BK123 BK127 HB
                have BK118 := n0_
                have BK119 := n1_
                have BK123 := n2_
                have BK127 := n3_
                have HB := n4_
                clear n0_ n1_ n2_ n3_ n4_
                (try clear hb)
                (try clear hb2)
                (try clear hk)
                (try clear hi)
                refine hK.out _ _ ⟨(blk_cell BK123.out 0).trans rfl, (blk_cell BK123.out 1).trans rfl⟩ (fun hHeld => ?_)
                clear hK K
                refine norm_ (a' := ?_) ?_ ?_
                rotate_left
                ·
                 show Act.put _ (some 60) _ = _
                 simp only [Act.put, List.setIfInBounds_toArray, List.set_cons_zero, List.set_cons_succ, i64_w, i32_w]
                 rfl
                refine pure_ (i := 8) (N := some 52) (v := ?_) (a' := ?_) #[true, true, true, true, true, true, true, true, true, false, false, true, false, false] rfl rfl (any_of HT_.out (by kernel_rfl)) (fun _ _ _ h => h) (Or.inl ⟨by rfl, ?_⟩) ?_ ?_
                rotate_left
                ·
                 intro w'
                 go_simp
                 with_reducible rfl
                rotate_left
                ·
                 simp only [Act.put, List.setIfInBounds_toArray, List.set_cons_zero, List.set_cons_succ, i64_w, i32_w]
                 rfl
                refine pure_ (i := 9) (N := some 61) (v := ?_) (a' := ?_) #[true, true, true, true, true, true, true, true, true, true, false, true, false, false] rfl rfl (any_of HT_.out (by kernel_rfl)) (fun _ _ _ h => h) (Or.inl ⟨by rfl, ?_⟩) ?_ ?_
                rotate_left
                ·
                 intro w'
                 go_simp
                 with_reducible rfl
                rotate_left
                ·
                 simp only [Act.put, List.setIfInBounds_toArray, List.set_cons_zero, List.set_cons_succ, i64_w, i32_w]
                 rfl
                refine pure_ (i := 10) (N := some 62) (v := ?_) (a' := ?_) #[true, true, true, true, true, true, true, true, true, true, true, true, false, false] rfl rfl (any_of HT_.out (by kernel_rfl)) (fun _ _ _ h => h) (Or.inl ⟨by rfl, ?_⟩) ?_ ?_
                rotate_left
                ·
                 intro w'
                 go_simp
                 with_reducible rfl
                rotate_left
                ·
                 simp only [Act.put, List.setIfInBounds_toArray, List.set_cons_zero, List.set_cons_succ, i64_w, i32_w]
                 rfl
                exact norm_ (by simp only [putAll, Act.put, List.setIfInBounds_toArray, List.set_cons_zero, List.set_cons_succ]) (hCont (gb127) _ ⟨hHeld, (bT BK118.out), (bT BK119.out), (bT BK123.out), (bT BK127.out), GW127.out, GE127.out, NB118_127.out, NB127_118.out, NB119_127.out, NB127_119.out, NB123_127.out, NB127_123.out, (bW HB.out)⟩)
              rintro gb127 w41 ⟨hS_, h0_, h1_, h2_, h3_, h4_, h5_, h6_, h7_, h8_, h9_, h10_, h11_, h12_⟩
              have n0_ : Aside0 (w41.heap[gb118]? = some (.cells #[.int .u64 x119000_2, .int .u64 x119001_2] 24 (0, 0))) := ⟨h0_⟩
              have n1_ : Aside0 (w41.heap[gb119]? = some (.cells #[.int .u64 x120000_2, .int .u64 x120001_2] 24 (0, 0))) := ⟨h1_⟩
              have n2_ : Aside0 (w41.heap[gb123]? = some (.cells #[.int .u64 t120, .int .u64 t121] 24 (0, 0))) := ⟨h2_⟩
              have n3_ : Aside0 (w41.heap[gb127]? = some (.cells #[.int .u64 0, .int .u64 0] 24 (0, 0))) := ⟨h3_⟩
              have n4_ : Aside0 (w.heap.size ≤ gb127) := ⟨h4_⟩
              have n5_ : Aside0 (w.heap.size ≤ gb127) := ⟨h5_⟩
              have n6_ : Aside0 (gb118 ≠ gb127) := ⟨h6_⟩
              have n7_ : Aside0 (gb127 ≠ gb118) := ⟨h7_⟩
              have n8_ : Aside0 (gb119 ≠ gb127) := ⟨h8_⟩
              have n9_ : Aside0 (gb127 ≠ gb119) := ⟨h9_⟩
              have n10_ : Aside0 (gb123 ≠ gb127) := ⟨h10_⟩
              have n11_ : Aside0 (gb127 ≠ gb123) := ⟨h11_⟩
              have n12_ : Aside0 (Below w.heap.size w w41) := ⟨h12_⟩
              clear BK118 BK119 BK123 HB h0_ h1_ h2_ h3_ h4_ h5_ h6_ h7_ h8_ h9_ h10_ h11_ h12_
              have BK118 := n0_
              have BK119 := n1_
              have BK123 := n2_
              have BK127 := n3_
              have GW127 := n4_
              have GE127 := n5_
              have NB118_127 := n6_
              have NB127_118 := n7_
              have NB119_127 := n8_
              have NB127_119 := n9_
              have NB123_127 := n10_
              have NB127_123 := n11_
              have HB := n12_
              clear n0_ n1_ n2_ n3_ n4_ n5_ n6_ n7_ n8_ n9_ n10_ n11_ n12_
              have hHeld : w41.cell? ⟨gb123, 0, none⟩ = some (.int .u64 t120) ∧ w41.cell? ⟨gb123, 1, none⟩ = some (.int .u64 t121) := hS_
              refine norm_ (a' := ?_) ?_ ?_
              rotate_left
              ·
               simp only [putAll, Act.put, List.setIfInBounds_toArray, List.set_cons_zero, List.set_cons_succ]
               rfl
              refine one_ (i := 12) (N := none) #[true, true, true, true, true, true, true, true, true, true, true, true, true, false] rfl rfl (one_of HT_.out (by kernel_rfl)) (by decide) (fun K hK => ?_)
              have hs42 : w41.cell? ⟨gb127, 0, none⟩ = some (.int .u64 0) := (blk_cell BK127.out 0).trans rfl
              have hfs42 := blk_frozen BK127.out 0
              have hns42_0 := NB118_127.out
              have hns42_1 := NB119_127.out
              have hns42_2 := NB123_127.out
              have hms42_0 := NB127_118.out
              have hms42_1 := NB127_119.out
              have hms42_2 := NB127_123.out
              have hs43 : w41.cell? ⟨gb127, 1, none⟩ = some (.int .u64 0) := (blk_cell BK127.out 1).trans rfl
              have hfs43 := blk_frozen BK127.out 1
              have hns43_0 := NB118_127.out
              have hns43_1 := NB119_127.out
              have hns43_2 := NB123_127.out
              have hms43_0 := NB127_118.out
              have hms43_1 := NB127_119.out
              have hms43_2 := NB127_123.out
              refine skip_ (w1 := ?_) (by rfl) rfl ?_ ?_
              rotate_left
              ·
               go_simp
               rfl
              refine hK.out _ _ ⟨((cell_far (p := ⟨gb127, _, none⟩) NB123_127.out _).trans (((cell_far (p := ⟨gb127, _, none⟩) NB123_127.out _).trans (hHeld.1)))), ((cell_far (p := ⟨gb127, _, none⟩) NB123_127.out _).trans (((cell_far (p := ⟨gb127, _, none⟩) NB123_127.out _).trans (hHeld.2))))⟩ (fun hHeld => ?_)
              clear hK K
              refine pure_ (i := 13) (N := some 9) (v := ?_) (a' := ?_) #[true, true, true, true, true, true, true, true, true, true, true, true, true, true] rfl rfl (any_of HT_.out (by kernel_rfl)) (fun _ _ _ h => h) (Or.inl ⟨by rfl, ?_⟩) ?_ ?_
              rotate_left
              ·
               intro w'
               go_simp
               with_reducible rfl
              rotate_left
              ·
               simp only [Act.put, List.setIfInBounds_toArray, List.set_cons_zero, List.set_cons_succ, i64_w, i32_w]
               rfl
              refine done_ (done_of HT_.out (by kernel_rfl)) ?_
              have hnb44 := NB127_118.out
              have hnc44 := NB118_127.out
              have hnb45 := NB127_119.out
              have hnc45 := NB119_127.out
              have hnb46 := NB127_123.out
              have hnc46 := NB123_127.out
              have hcz47_0 : w41.cell? ⟨gb127, 0, none⟩ = some (.int .u64 0) := (blk_cell BK127.out 0).trans rfl
              have hcz47_1 : w41.cell? ⟨gb127, 1, none⟩ = some (.int .u64 0) := (blk_cell BK127.out 1).trans rfl
              have hfz47_0 := blk_frozen BK127.out 0
              have hfz47_1 := blk_frozen BK127.out 1
              have hcz48_0 : w41.cell? ⟨gb119, 0, none⟩ = some (.int .u64 x120000_2) := (blk_cell BK119.out 0).trans rfl
              have hcz48_1 : w41.cell? ⟨gb119, 1, none⟩ = some (.int .u64 x120001_2) := (blk_cell BK119.out 1).trans rfl
              have hfz48_0 := blk_frozen BK119.out 0
              have hfz48_1 := blk_frozen BK119.out 1
              try go_wp2
              go_roundg kj14
              case measure => have := HJ1.out; have := HK2.out; have := HJ14.out; omega
              case rel => exact ⟨(wrap64 (x5_2 + 1)), (x119000_2), (x119001_2), (t124), (t125), (by first | rfl | (simp; done) | (simp [*]; done)), H', ⟨by have := HJ1.out; have := HK2.out; have := HJ14.out; omega⟩, ⟨by (with_reducible repeat (first | refine blk_drewN ?_ _ | refine blk_drew ?_ | refine blk_alloc ?_ _)); refine blk_far ?_ NB118_119.out _; (with_reducible repeat (first | refine blk_drewN ?_ _ | refine blk_drew ?_ | refine blk_alloc ?_ _)); refine blk_far ?_ NB118_119.out _; (with_reducible repeat (first | refine blk_drewN ?_ _ | refine blk_drew ?_ | refine blk_alloc ?_ _)); refine blk_far ?_ NB118_127.out _; (with_reducible repeat (first | refine blk_drewN ?_ _ | refine blk_drew ?_ | refine blk_alloc ?_ _)); refine blk_far ?_ NB118_127.out _; (with_reducible repeat (first | refine blk_drewN ?_ _ | refine blk_drew ?_ | refine blk_alloc ?_ _)); exact BK118.out⟩, ⟨by (with_reducible repeat (first | refine blk_drewN ?_ _ | refine blk_drew ?_ | refine blk_alloc ?_ _)); refine blk_put (cs := #[.int .u64 t124, .int .u64 x120001_2]) ?_ 1 _ rfl; (with_reducible repeat (first | refine blk_drewN ?_ _ | refine blk_drew ?_ | refine blk_alloc ?_ _)); refine blk_put (cs := #[.int .u64 x120000_2, .int .u64 x120001_2]) ?_ 0 _ rfl; (with_reducible repeat (first | refine blk_drewN ?_ _ | refine blk_drew ?_ | refine blk_alloc ?_ _)); refine blk_far ?_ NB119_127.out _; (with_reducible repeat (first | refine blk_drewN ?_ _ | refine blk_drew ?_ | refine blk_alloc ?_ _)); refine blk_far ?_ NB119_127.out _; (with_reducible repeat (first | refine blk_drewN ?_ _ | refine blk_drew ?_ | refine blk_alloc ?_ _)); exact BK119.out⟩, ⟨by repeat (first | (with_reducible first | exact HB.out | apply below_alloc | apply pw_below_drewN | apply below_drew1 | refine below_set ?_ GE118.out | refine below_set ?_ GE119.out | refine below_set ?_ GE123.out | refine below_set ?_ GE127.out) | exact HB.out)⟩⟩
             ·
              replace c29 := Bool.eq_false_iff.mpr c29
              subst c29
              have H1 : (some (0, 0, false)) = some (r1, r2, r3) := by rw [if_neg (show ¬ (false = true) by decide)] at H; exact H
              clear H
              have H := H1
              clear H1
              simp only [Option.some.injEq, Prod.mk.injEq] at H
              obtain ⟨rfl, rfl, rfl⟩ := H
              have hnb49 := NB119_118.out
              have hnc49 := NB118_119.out
              have hcz50_0 : wc.cell? ⟨gb119, 0, none⟩ = some (.int .u64 x120000_2) := (blk_cell BK119.out 0).trans rfl
              have hcz50_1 : wc.cell? ⟨gb119, 1, none⟩ = some (.int .u64 x120001_2) := (blk_cell BK119.out 1).trans rfl
              have hfz50_0 := blk_frozen BK119.out 0
              have hfz50_1 := blk_frozen BK119.out 1
              try go_wp2_with (first | ((with_reducible refine gate_callee (f := 26) rfl ?_); refine goesL_ (some 49) rfl rfl Try.func26 (by kernel_rfl) rfl #[.agg #[.int .u64 x120000_2, .int .u64 x120001_2], .agg #[.int .u64 0, .int .u64 10]] rfl (by (try simp only [List.map_toArray, List.map_cons, List.map_nil]); first | done | rfl | (simp only [List.length_drop, List.length_take]; rfl)) ?_; (with_reducible refine (samphireref01_Mul.calls x120000_2 x120001_2 0 10 t120 t121 true _ A23.out).mono ?_); rintro e w51 ⟨rfl, hb⟩; refine ⟨_, rfl, ?_⟩; have n0_ := Aside0.mk (blk_below (bT BK118.out) hb); have n1_ := Aside0.mk (blk_below (bT BK119.out) hb); have n2_ := Aside0.mk (below_step (bW HB.out) hb); clear BK118 BK119 HB; have BK118 := n0_; have BK119 := n1_; have HB := n2_; clear n0_ n1_ n2_; (try clear hb); (try clear hb2); (try clear hk); (try clear hi)) | ((with_reducible refine gate_dst (N := 6) rfl ?_); (try (refine gate_guard (by rfl) ?_; dsimp only)); refine box_event ?hg (N := 6) ?hd (cs := #[.int .u64 0, .int .u64 0]) (t := 24) ?hr ?_; (case hd => rfl); (case hg => rfl); (case hr => first | (go_simp; done) | (go_simp; rfl)); intro gb123 hg w52 hbox hb; have n0_ := Aside0.mk (blk_below (bT BK118.out) hb); have n1_ := Aside0.mk (blk_below (bT BK119.out) hb); have n2_ := Aside0.mk (below_step (bW HB.out) hb); have n3_ := Aside0.mk (hbox); have n4_ := Aside0.mk ((by rw [hg]; exact (below_size (bW HB.out)) : w.heap.size ≤ gb123)); have n5_ := Aside0.mk ((by rw [hg]; exact (below_size (bW HB.out)) : w.heap.size ≤ gb123)); have n6_ := Aside0.mk ((by rw [hg]; exact Nat.ne_of_lt (blk_lt (bT BK118.out)) : gb118 ≠ gb123)); have n7_ := Aside0.mk ((by rw [hg]; exact Nat.ne_of_gt (blk_lt (bT BK118.out)) : gb123 ≠ gb118)); have n8_ := Aside0.mk ((by rw [hg]; exact Nat.ne_of_lt (blk_lt (bT BK119.out)) : gb119 ≠ gb123)); have n9_ := Aside0.mk ((by rw [hg]; exact Nat.ne_of_gt (blk_lt (bT BK119.out)) : gb123 ≠ gb119)); clear BK118 BK119 HB; have BK118 := n0_; have BK119 := n1_; have HB := n2_; have BK123 := n3_; have GW123 := n4_; have GE123 := n5_; have NB118_123 := n6_; have NB123_118 := n7_; have NB119_123 := n8_; have NB123_119 := n9_; clear n0_ n1_ n2_ n3_ n4_ n5_ n6_ n7_ n8_ n9_ hb hbox hg; have hnb53 := NB123_118.out; have hnc53 := NB118_123.out; have hnb54 := NB123_119.out; have hnc54 := NB119_123.out; have hcz55_0 : w52.cell? ⟨gb123, 0, none⟩ = some (.int .u64 0) := (blk_cell BK123.out 0).trans rfl; have hcz55_1 : w52.cell? ⟨gb123, 1, none⟩ = some (.int .u64 0) := (blk_cell BK123.out 1).trans rfl; have hfz55_0 := blk_frozen BK123.out 0; have hfz55_1 := blk_frozen BK123.out 1))
              have n0_ : Aside0 (((w52.setCell ⟨gb123, 0, none⟩ (.int .u64 t120)).setCell ⟨gb123, 1, none⟩ (.int .u64 t121)).heap[gb118]? = some (.cells #[.int .u64 x119000_2, .int .u64 x119001_2] 24 (0, 0))) := ⟨by (with_reducible repeat (first | refine blk_drewN ?_ _ | refine blk_drew ?_ | refine blk_alloc ?_ _)); refine blk_far ?_ NB118_123.out _; (with_reducible repeat (first | refine blk_drewN ?_ _ | refine blk_drew ?_ | refine blk_alloc ?_ _)); refine blk_far ?_ NB118_123.out _; (with_reducible repeat (first | refine blk_drewN ?_ _ | refine blk_drew ?_ | refine blk_alloc ?_ _)); exact BK118.out⟩
              have n1_ : Aside0 (((w52.setCell ⟨gb123, 0, none⟩ (.int .u64 t120)).setCell ⟨gb123, 1, none⟩ (.int .u64 t121)).heap[gb119]? = some (.cells #[.int .u64 x120000_2, .int .u64 x120001_2] 24 (0, 0))) := ⟨by (with_reducible repeat (first | refine blk_drewN ?_ _ | refine blk_drew ?_ | refine blk_alloc ?_ _)); refine blk_far ?_ NB119_123.out _; (with_reducible repeat (first | refine blk_drewN ?_ _ | refine blk_drew ?_ | refine blk_alloc ?_ _)); refine blk_far ?_ NB119_123.out _; (with_reducible repeat (first | refine blk_drewN ?_ _ | refine blk_drew ?_ | refine blk_alloc ?_ _)); exact BK119.out⟩
              have n2_ : Aside0 (((w52.setCell ⟨gb123, 0, none⟩ (.int .u64 t120)).setCell ⟨gb123, 1, none⟩ (.int .u64 t121)).heap[gb123]? = some (.cells #[.int .u64 t120, .int .u64 t121] 24 (0, 0))) := ⟨by (with_reducible repeat (first | refine blk_drewN ?_ _ | refine blk_drew ?_ | refine blk_alloc ?_ _)); refine blk_put (cs := #[.int .u64 t120, .int .u64 0]) ?_ 1 _ rfl; (with_reducible repeat (first | refine blk_drewN ?_ _ | refine blk_drew ?_ | refine blk_alloc ?_ _)); refine blk_put (cs := #[.int .u64 0, .int .u64 0]) ?_ 0 _ rfl; (with_reducible repeat (first | refine blk_drewN ?_ _ | refine blk_drew ?_ | refine blk_alloc ?_ _)); exact BK123.out⟩
              have n3_ : Aside0 (Below w.heap.size w ((w52.setCell ⟨gb123, 0, none⟩ (.int .u64 t120)).setCell ⟨gb123, 1, none⟩ (.int .u64 t121))) := ⟨by repeat (first | (with_reducible first | exact HB.out | apply below_alloc | apply pw_below_drewN | apply below_drew1 | refine below_set ?_ GE118.out | refine below_set ?_ GE119.out | refine below_set ?_ GE123.out) | exact HB.out)⟩
              (try clear BK118)
              (try clear BK119)
              (try clear BK123)
              (try clear HB)
              generalize ((w52.setCell ⟨gb123, 0, none⟩ (.int .u64 t120)).setCell ⟨gb123, 1, none⟩ (.int .u64 t121)) = w56 at n0_ n1_ n2_ n3_ ⊢
              have BK118 := n0_
              have BK119 := n1_
              have BK123 := n2_
              have HB := n3_
              clear n0_ n1_ n2_ n3_
              have n0_ := Aside0.mk (blk_drew BK118.out)
              have n1_ := Aside0.mk (blk_drew BK119.out)
              have n2_ := Aside0.mk (blk_drew BK123.out)
              have n3_ := Aside0.mk (below_drew1 HB.out)
              clear BK118 BK119 BK123 HB
              have BK118 := n0_
              have BK119 := n1_
              have BK123 := n2_
              have HB := n3_
              clear n0_ n1_ n2_ n3_
              have p26 : 0 ≤ (x5_2 : Int) := of_decide_eq_true (by first | (with_reducible assumption) | assumption)
              have q26 : x5_2 < (a0.size : Int) := of_decide_eq_true (by first | (with_reducible assumption) | assumption)
              have hx26 := bt_at a0 x5_2
              replace p26 := eq_true p26
              replace q26 := eq_true q26
              refine start_ (n := 14) (S := fun w' => w'.cell? ⟨gb123, 0, none⟩ = some (.int .u64 t120) ∧ w'.cell? ⟨gb123, 1, none⟩ = some (.int .u64 t121)) (ds := []) #[false, false, false, false, false, false, false, false, false, false, false, false, false, false] (by kernel_rfl) rfl rfl ⟨(blk_cell BK123.out 0).trans rfl, (blk_cell BK123.out 1).trans rfl⟩ (fun hHeld => ?_); refine with_tabW samphireref01_Read.tab10 samphireref01_Read.bits10 (fun HT_ HW_ => ?_)
              generalize w56.drew = w57 at BK118 BK119 BK123 HB hHeld ⊢
              refine pure_ (i := 1) (N := some 54) (v := ?_) (a' := ?_) #[false, true, false, false, false, false, false, false, false, false, false, false, false, false] rfl rfl (any_of HT_.out (by kernel_rfl)) (fun _ _ _ h => h) (Or.inl ⟨by rfl, ?_⟩) ?_ ?_
              rotate_left
              ·
               intro w'
               go_simp
               with_reducible rfl
              rotate_left
              ·
               simp only [Act.put, List.setIfInBounds_toArray, List.set_cons_zero, List.set_cons_succ, i64_w, i32_w]
               rfl
              refine pure_ (i := 2) (N := some 55) (v := ?_) (a' := ?_) #[false, true, true, false, false, false, false, false, false, false, false, false, false, false] rfl rfl (any_of HT_.out (by kernel_rfl)) (fun _ _ _ h => h) (Or.inl ⟨by rfl, ?_⟩) ?_ ?_
              rotate_left
              ·
               intro w'
               go_simp
               with_reducible rfl
              rotate_left
              ·
               simp only [Act.put, List.setIfInBounds_toArray, List.set_cons_zero, List.set_cons_succ, i64_w, i32_w]
               rfl
              refine take_ (i := 0) (N := some 53) (v := ?_) (a' := ?_) #[true, true, true, false, false, false, false, false, false, false, false, false, false, false] rfl rfl (take_ofW HT_.out HW_.out (by kernel_rfl)) (fun _ _ _ h => h) (Or.inl ⟨by rfl, ?_⟩) hHeld ?_ ?_
              rotate_left
              ·
               rintro w' ⟨s0, s1⟩
               go_simp
               with_reducible rfl
              rotate_left
              ·
               simp only [Act.put, List.setIfInBounds_toArray, List.set_cons_zero, List.set_cons_succ, i64_w, i32_w]
               rfl
              refine take_ (i := 3) (N := some 56) (v := ?_) (a' := ?_) #[true, true, true, true, false, false, false, false, false, false, false, false, false, false] rfl rfl (take_ofW HT_.out HW_.out (by kernel_rfl)) (fun _ _ _ h => h) (Or.inl ⟨by rfl, ?_⟩) hHeld ?_ ?_
              rotate_left
              ·
               rintro w' ⟨s0, s1⟩
               go_simp
               with_reducible rfl
              rotate_left
              ·
               simp only [Act.put, List.setIfInBounds_toArray, List.set_cons_zero, List.set_cons_succ, i64_w, i32_w]
               rfl
              refine pure_ (i := 4) (N := some 57) (v := ?_) (a' := ?_) #[true, true, true, true, true, false, false, false, false, false, false, false, false, false] rfl rfl (any_of HT_.out (by kernel_rfl)) (fun _ _ _ h => h) (Or.inl ⟨by rfl, ?_⟩) ?_ ?_
              rotate_left
              ·
               intro w'
               go_simp
               with_reducible rfl
              rotate_left
              ·
               simp only [Act.put, List.setIfInBounds_toArray, List.set_cons_zero, List.set_cons_succ, i64_w, i32_w]
               rfl
              refine pure_ (i := 5) (N := some 58) (v := ?_) (a' := ?_) #[true, true, true, true, true, true, false, false, false, false, false, false, false, false] rfl rfl (any_of HT_.out (by kernel_rfl)) (fun _ _ _ h => h) (Or.inl ⟨by rfl, ?_⟩) ?_ ?_
              rotate_left
              ·
               intro w'
               go_simp
               with_reducible rfl
              rotate_left
              ·
               simp only [Act.put, List.setIfInBounds_toArray, List.set_cons_zero, List.set_cons_succ, i64_w, i32_w]
               rfl
              refine pure_ (i := 6) (N := some 59) (v := ?_) (a' := ?_) #[true, true, true, true, true, true, true, false, false, false, false, false, false, false] rfl rfl (any_of HT_.out (by kernel_rfl)) (fun _ _ _ h => h) (Or.inl ⟨by rfl, ?_⟩) ?_ ?_
              rotate_left
              ·
               intro w'
               go_simp
               with_reducible rfl
              rotate_left
              ·
               simp only [Act.put, List.setIfInBounds_toArray, List.set_cons_zero, List.set_cons_succ, i64_w, i32_w]
               rfl
              refine join_ (σ := Nat) 2 #[true, true, true, true, true, true, true, true, true, true, true, true, false, false] (fun s_ => [(60, .tuple #[.agg #[.int .u64 t124, .int .u64 t125], .bool false]), (8, .pointer (some ⟨s_, 0, none⟩)), (52, .tuple #[.agg #[.int .u64 t124, .int .u64 t125], .bool false]), (61, .agg #[.int .u64 t124, .int .u64 t125]), (62, .bool false)]) (fun s_ w' => (w'.cell? ⟨gb123, 0, none⟩ = some (.int .u64 t120) ∧ w'.cell? ⟨gb123, 1, none⟩ = some (.int .u64 t121)) ∧ (w'.heap[gb118]? = some (.cells #[.int .u64 x119000_2, .int .u64 x119001_2] 24 (0, 0))) ∧ (w'.heap[gb119]? = some (.cells #[.int .u64 x120000_2, .int .u64 x120001_2] 24 (0, 0))) ∧ (w'.heap[gb123]? = some (.cells #[.int .u64 t120, .int .u64 t121] 24 (0, 0))) ∧ (w'.heap[s_]? = some (.cells #[.int .u64 0, .int .u64 0] 24 (0, 0))) ∧ (w.heap.size ≤ s_) ∧ (w.heap.size ≤ s_) ∧ (gb118 ≠ s_) ∧ (s_ ≠ gb118) ∧ (gb119 ≠ s_) ∧ (s_ ≠ gb119) ∧ (gb123 ≠ s_) ∧ (s_ ≠ gb123) ∧ (Below w.heap.size w w')) ?_ ?_
              rotate_left
              ·
               intro hCont
               refine two_ (i := 7) (j := 11) (Ni := some 60) (Nj := some 8) #[true, true, true, true, true, true, true, true, false, false, false, false, false, false] #[true, true, true, true, true, true, true, false, false, false, false, true, false, false] rfl rfl rfl rfl (two_of HT_.out (by kernel_rfl)) (by decide) (by decide) (fun K hK => ?_) (fun K hK => ?_)
               ·
                skip
                refine goes_ Try.func21 (by kernel_rfl) rfl #[.agg #[.int .u64 t120, .int .u64 t121], .agg #[.int .u64 0, .int .u64 (((bt a0 x5_2) - 48) % 256)]] (by rfl) rfl rfl (by (try simp only [List.map_toArray, List.map_cons, List.map_nil]); first | done | rfl | (simp [Act.eval]; rw [D.wrapE, u8wr]; omega)) ?_
                with_reducible refine (samphireref01_Add.calls t120 t121 0 (((bt a0 x5_2) - 48) % 256) t124 t125 false _ A27.out).mono ?_
                rintro e w58 ⟨rfl, hb⟩
                refine ⟨_, rfl, ?_⟩
                have n0_ := Aside0.mk (blk_below (bT BK118.out) hb)
                have n1_ := Aside0.mk (blk_below (bT BK119.out) hb)
                have n2_ := Aside0.mk (blk_below (bT BK123.out) hb)
                have n3_ := Aside0.mk (below_step (bW HB.out) hb)
                clear BK118 BK119 BK123 HB
                have BK118 := n0_
                have BK119 := n1_
                have BK123 := n2_
                have HB := n3_
                clear n0_ n1_ n2_ n3_
                (try clear hb)
                (try clear hb2)
                (try clear hk)
                (try clear hi)
                refine hK.out _ _ ⟨(blk_cell BK123.out 0).trans rfl, (blk_cell BK123.out 1).trans rfl⟩ (fun hHeld => ?_)
                clear hK K
                refine norm_ (a' := ?_) ?_ ?_
                rotate_left
                ·
                 show Act.put _ (some 60) _ = _
                 simp only [Act.put, List.setIfInBounds_toArray, List.set_cons_zero, List.set_cons_succ, i64_w, i32_w]
                 rfl
                refine pure_ (i := 8) (N := some 52) (v := ?_) (a' := ?_) #[true, true, true, true, true, true, true, true, true, false, false, false, false, false] rfl rfl (any_of HT_.out (by kernel_rfl)) (fun _ _ _ h => h) (Or.inl ⟨by rfl, ?_⟩) ?_ ?_
                rotate_left
                ·
                 intro w'
                 go_simp
                 with_reducible rfl
                rotate_left
                ·
                 simp only [Act.put, List.setIfInBounds_toArray, List.set_cons_zero, List.set_cons_succ, i64_w, i32_w]
                 rfl
                refine pure_ (i := 9) (N := some 61) (v := ?_) (a' := ?_) #[true, true, true, true, true, true, true, true, true, true, false, false, false, false] rfl rfl (any_of HT_.out (by kernel_rfl)) (fun _ _ _ h => h) (Or.inl ⟨by rfl, ?_⟩) ?_ ?_
                rotate_left
                ·
                 intro w'
                 go_simp
                 with_reducible rfl
                rotate_left
                ·
                 simp only [Act.put, List.setIfInBounds_toArray, List.set_cons_zero, List.set_cons_succ, i64_w, i32_w]
                 rfl
                refine pure_ (i := 10) (N := some 62) (v := ?_) (a' := ?_) #[true, true, true, true, true, true, true, true, true, true, true, false, false, false] rfl rfl (any_of HT_.out (by kernel_rfl)) (fun _ _ _ h => h) (Or.inl ⟨by rfl, ?_⟩) ?_ ?_
                rotate_left
                ·
                 intro w'
                 go_simp
                 with_reducible rfl
                rotate_left
                ·
                 simp only [Act.put, List.setIfInBounds_toArray, List.set_cons_zero, List.set_cons_succ, i64_w, i32_w]
                 rfl
                refine one_ (i := 11) (N := some 8) #[true, true, true, true, true, true, true, true, true, true, true, true, false, false] rfl rfl (one_of HT_.out (by kernel_rfl)) (by decide) (fun K hK => ?_)
                refine box_step ?hg (N := 8) ?hd (cs := #[.int .u64 0, .int .u64 0]) (t := 24) ?hr ?_; (case hd => rfl); (case hg => rfl); (case hr => first | (go_simp; done) | (go_simp; rfl))
                intro gb127 hg w59 hbox hb
                have n0_ := Aside0.mk (blk_below (bT BK118.out) hb)
                have n1_ := Aside0.mk (blk_below (bT BK119.out) hb)
                have n2_ := Aside0.mk (blk_below (bT BK123.out) hb)
                have n3_ := Aside0.mk (below_step (bW HB.out) hb)
                have n4_ := Aside0.mk (hbox)
                have n5_ := Aside0.mk ((by rw [hg]; exact (below_size (bW HB.out)) : w.heap.size ≤ gb127))
                have n6_ := Aside0.mk ((by rw [hg]; exact (below_size (bW HB.out)) : w.heap.size ≤ gb127))
                have n7_ := Aside0.mk ((by rw [hg]; exact Nat.ne_of_lt (blk_lt (bT BK118.out)) : gb118 ≠ gb127))
                have n8_ := Aside0.mk ((by rw [hg]; exact Nat.ne_of_gt (blk_lt (bT BK118.out)) : gb127 ≠ gb118))
                have n9_ := Aside0.mk ((by rw [hg]; exact Nat.ne_of_lt (blk_lt (bT BK119.out)) : gb119 ≠ gb127))
                have n10_ := Aside0.mk ((by rw [hg]; exact Nat.ne_of_gt (blk_lt (bT BK119.out)) : gb127 ≠ gb119))
                have n11_ := Aside0.mk ((by rw [hg]; exact Nat.ne_of_lt (blk_lt (bT BK123.out)) : gb123 ≠ gb127))
                have n12_ := Aside0.mk ((by rw [hg]; exact Nat.ne_of_gt (blk_lt (bT BK123.out)) : gb127 ≠ gb123))
                clear BK118 BK119 BK123 HB
                have BK118 := n0_
                have BK119 := n1_
                have BK123 := n2_
                have HB := n3_
                have BK127 := n4_
                have GW127 := n5_
                have GE127 := n6_
                have NB118_127 := n7_
                have NB127_118 := n8_
                have NB119_127 := n9_
                have NB127_119 := n10_
                have NB123_127 := n11_
                have NB127_123 := n12_
                clear n0_ n1_ n2_ n3_ n4_ n5_ n6_ n7_ n8_ n9_ n10_ n11_ n12_ hb hbox hg
                refine hK.out _ _ ⟨(blk_cell BK123.out 0).trans rfl, (blk_cell BK123.out 1).trans rfl⟩ (fun hHeld => ?_)
                clear hK K
                refine norm_ (a' := ?_) ?_ ?_
                rotate_left
                ·
                 show Act.put _ (some 8) _ = _
                 simp only [Act.put, List.setIfInBounds_toArray, List.set_cons_zero, List.set_cons_succ, i64_w, i32_w]
                 rfl
                exact norm_ (by simp only [putAll, Act.put, List.setIfInBounds_toArray, List.set_cons_zero, List.set_cons_succ]) (hCont (gb127) _ ⟨hHeld, (bT BK118.out), (bT BK119.out), (bT BK123.out), (bT BK127.out), GW127.out, GE127.out, NB118_127.out, NB127_118.out, NB119_127.out, NB127_119.out, NB123_127.out, NB127_123.out, (bW HB.out)⟩)
               ·
                skip
                refine box_step ?hg (N := 8) ?hd (cs := #[.int .u64 0, .int .u64 0]) (t := 24) ?hr ?_; (case hd => rfl); (case hg => rfl); (case hr => first | (go_simp; done) | (go_simp; rfl))
                intro gb127 hg w58 hbox hb
                have n0_ := Aside0.mk (blk_below (bT BK118.out) hb)
                have n1_ := Aside0.mk (blk_below (bT BK119.out) hb)
                have n2_ := Aside0.mk (blk_below (bT BK123.out) hb)
                have n3_ := Aside0.mk (below_step (bW HB.out) hb)
                have n4_ := Aside0.mk (hbox)
                have n5_ := Aside0.mk ((by rw [hg]; exact (below_size (bW HB.out)) : w.heap.size ≤ gb127))
                have n6_ := Aside0.mk ((by rw [hg]; exact (below_size (bW HB.out)) : w.heap.size ≤ gb127))
                have n7_ := Aside0.mk ((by rw [hg]; exact Nat.ne_of_lt (blk_lt (bT BK118.out)) : gb118 ≠ gb127))
                have n8_ := Aside0.mk ((by rw [hg]; exact Nat.ne_of_gt (blk_lt (bT BK118.out)) : gb127 ≠ gb118))
                have n9_ := Aside0.mk ((by rw [hg]; exact Nat.ne_of_lt (blk_lt (bT BK119.out)) : gb119 ≠ gb127))
                have n10_ := Aside0.mk ((by rw [hg]; exact Nat.ne_of_gt (blk_lt (bT BK119.out)) : gb127 ≠ gb119))
                have n11_ := Aside0.mk ((by rw [hg]; exact Nat.ne_of_lt (blk_lt (bT BK123.out)) : gb123 ≠ gb127))
                have n12_ := Aside0.mk ((by rw [hg]; exact Nat.ne_of_gt (blk_lt (bT BK123.out)) : gb127 ≠ gb123))
                clear BK118 BK119 BK123 HB
                have BK118 := n0_
                have BK119 := n1_
                have BK123 := n2_
                have HB := n3_
                have BK127 := n4_
                have GW127 := n5_
                have GE127 := n6_
                have NB118_127 := n7_
                have NB127_118 := n8_
                have NB119_127 := n9_
                have NB127_119 := n10_
                have NB123_127 := n11_
                have NB127_123 := n12_
                clear n0_ n1_ n2_ n3_ n4_ n5_ n6_ n7_ n8_ n9_ n10_ n11_ n12_ hb hbox hg
                refine hK.out _ _ ⟨(blk_cell BK123.out 0).trans rfl, (blk_cell BK123.out 1).trans rfl⟩ (fun hHeld => ?_)
                clear hK K
                refine norm_ (a' := ?_) ?_ ?_
                rotate_left
                ·
                 show Act.put _ (some 8) _ = _
                 simp only [Act.put, List.setIfInBounds_toArray, List.set_cons_zero, List.set_cons_succ, i64_w, i32_w]
                 rfl
                refine one_ (i := 7) (N := some 60) #[true, true, true, true, true, true, true, true, false, false, false, true, false, false] rfl rfl (one_of HT_.out (by kernel_rfl)) (by decide) (fun K hK => ?_)
                refine goes_ Try.func21 (by kernel_rfl) rfl #[.agg #[.int .u64 t120, .int .u64 t121], .agg #[.int .u64 0, .int .u64 (((bt a0 x5_2) - 48) % 256)]] (by rfl) rfl rfl (by (try simp only [List.map_toArray, List.map_cons, List.map_nil]); first | done | rfl | (simp [Act.eval]; rw [D.wrapE, u8wr]; omega)) ?_
                with_reducible refine (samphireref01_Add.calls t120 t121 0 (((bt a0 x5_2) - 48) % 256) t124 t125 false _ A27.out).mono ?_
                rintro e w59 ⟨rfl, hb⟩
                refine ⟨_, rfl, ?_⟩
                have n0_ := Aside0.mk (blk_below (bT BK118.out) hb)
                have n1_ := Aside0.mk (blk_below (bT BK119.out) hb)
                have n2_ := Aside0.mk (blk_below (bT BK123.out) hb)
                have n3_ := Aside0.mk (blk_below (bT BK127.out) hb)
                have n4_ := Aside0.mk (below_step (bW HB.out) hb)
                clear BK118 BK119 BK123 BK127 HB
                have BK118 := n0_
                have BK119 := n1_
                have BK123 := n2_
                have BK127 := n3_
                have HB := n4_
                clear n0_ n1_ n2_ n3_ n4_
                (try clear hb)
                (try clear hb2)
                (try clear hk)
                (try clear hi)
                refine hK.out _ _ ⟨(blk_cell BK123.out 0).trans rfl, (blk_cell BK123.out 1).trans rfl⟩ (fun hHeld => ?_)
                clear hK K
                refine norm_ (a' := ?_) ?_ ?_
                rotate_left
                ·
                 show Act.put _ (some 60) _ = _
                 simp only [Act.put, List.setIfInBounds_toArray, List.set_cons_zero, List.set_cons_succ, i64_w, i32_w]
                 rfl
                refine pure_ (i := 8) (N := some 52) (v := ?_) (a' := ?_) #[true, true, true, true, true, true, true, true, true, false, false, true, false, false] rfl rfl (any_of HT_.out (by kernel_rfl)) (fun _ _ _ h => h) (Or.inl ⟨by rfl, ?_⟩) ?_ ?_
                rotate_left
                ·
                 intro w'
                 go_simp
                 with_reducible rfl
                rotate_left
                ·
                 simp only [Act.put, List.setIfInBounds_toArray, List.set_cons_zero, List.set_cons_succ, i64_w, i32_w]
                 rfl
                refine pure_ (i := 9) (N := some 61) (v := ?_) (a' := ?_) #[true, true, true, true, true, true, true, true, true, true, false, true, false, false] rfl rfl (any_of HT_.out (by kernel_rfl)) (fun _ _ _ h => h) (Or.inl ⟨by rfl, ?_⟩) ?_ ?_
                rotate_left
                ·
                 intro w'
                 go_simp
                 with_reducible rfl
                rotate_left
                ·
                 simp only [Act.put, List.setIfInBounds_toArray, List.set_cons_zero, List.set_cons_succ, i64_w, i32_w]
                 rfl
                refine pure_ (i := 10) (N := some 62) (v := ?_) (a' := ?_) #[true, true, true, true, true, true, true, true, true, true, true, true, false, false] rfl rfl (any_of HT_.out (by kernel_rfl)) (fun _ _ _ h => h) (Or.inl ⟨by rfl, ?_⟩) ?_ ?_
                rotate_left
                ·
                 intro w'
                 go_simp
                 with_reducible rfl
                rotate_left
                ·
                 simp only [Act.put, List.setIfInBounds_toArray, List.set_cons_zero, List.set_cons_succ, i64_w, i32_w]
                 rfl
                exact norm_ (by simp only [putAll, Act.put, List.setIfInBounds_toArray, List.set_cons_zero, List.set_cons_succ]) (hCont (gb127) _ ⟨hHeld, (bT BK118.out), (bT BK119.out), (bT BK123.out), (bT BK127.out), GW127.out, GE127.out, NB118_127.out, NB127_118.out, NB119_127.out, NB127_119.out, NB123_127.out, NB127_123.out, (bW HB.out)⟩)
              rintro gb127 w60 ⟨hS_, h0_, h1_, h2_, h3_, h4_, h5_, h6_, h7_, h8_, h9_, h10_, h11_, h12_⟩
              have n0_ : Aside0 (w60.heap[gb118]? = some (.cells #[.int .u64 x119000_2, .int .u64 x119001_2] 24 (0, 0))) := ⟨h0_⟩
              have n1_ : Aside0 (w60.heap[gb119]? = some (.cells #[.int .u64 x120000_2, .int .u64 x120001_2] 24 (0, 0))) := ⟨h1_⟩
              have n2_ : Aside0 (w60.heap[gb123]? = some (.cells #[.int .u64 t120, .int .u64 t121] 24 (0, 0))) := ⟨h2_⟩
              have n3_ : Aside0 (w60.heap[gb127]? = some (.cells #[.int .u64 0, .int .u64 0] 24 (0, 0))) := ⟨h3_⟩
              have n4_ : Aside0 (w.heap.size ≤ gb127) := ⟨h4_⟩
              have n5_ : Aside0 (w.heap.size ≤ gb127) := ⟨h5_⟩
              have n6_ : Aside0 (gb118 ≠ gb127) := ⟨h6_⟩
              have n7_ : Aside0 (gb127 ≠ gb118) := ⟨h7_⟩
              have n8_ : Aside0 (gb119 ≠ gb127) := ⟨h8_⟩
              have n9_ : Aside0 (gb127 ≠ gb119) := ⟨h9_⟩
              have n10_ : Aside0 (gb123 ≠ gb127) := ⟨h10_⟩
              have n11_ : Aside0 (gb127 ≠ gb123) := ⟨h11_⟩
              have n12_ : Aside0 (Below w.heap.size w w60) := ⟨h12_⟩
              clear BK118 BK119 BK123 HB h0_ h1_ h2_ h3_ h4_ h5_ h6_ h7_ h8_ h9_ h10_ h11_ h12_
              have BK118 := n0_
              have BK119 := n1_
              have BK123 := n2_
              have BK127 := n3_
              have GW127 := n4_
              have GE127 := n5_
              have NB118_127 := n6_
              have NB127_118 := n7_
              have NB119_127 := n8_
              have NB127_119 := n9_
              have NB123_127 := n10_
              have NB127_123 := n11_
              have HB := n12_
              clear n0_ n1_ n2_ n3_ n4_ n5_ n6_ n7_ n8_ n9_ n10_ n11_ n12_
              have hHeld : w60.cell? ⟨gb123, 0, none⟩ = some (.int .u64 t120) ∧ w60.cell? ⟨gb123, 1, none⟩ = some (.int .u64 t121) := hS_
              refine norm_ (a' := ?_) ?_ ?_
              rotate_left
              ·
               simp only [putAll, Act.put, List.setIfInBounds_toArray, List.set_cons_zero, List.set_cons_succ]
               rfl
              refine one_ (i := 12) (N := none) #[true, true, true, true, true, true, true, true, true, true, true, true, true, false] rfl rfl (one_of HT_.out (by kernel_rfl)) (by decide) (fun K hK => ?_)
              have hs61 : w60.cell? ⟨gb127, 0, none⟩ = some (.int .u64 0) := (blk_cell BK127.out 0).trans rfl
              have hfs61 := blk_frozen BK127.out 0
              have hns61_0 := NB118_127.out
              have hns61_1 := NB119_127.out
              have hns61_2 := NB123_127.out
              have hms61_0 := NB127_118.out
              have hms61_1 := NB127_119.out
              have hms61_2 := NB127_123.out
              have hs62 : w60.cell? ⟨gb127, 1, none⟩ = some (.int .u64 0) := (blk_cell BK127.out 1).trans rfl
              have hfs62 := blk_frozen BK127.out 1
              have hns62_0 := NB118_127.out
              have hns62_1 := NB119_127.out
              have hns62_2 := NB123_127.out
              have hms62_0 := NB127_118.out
              have hms62_1 := NB127_119.out
              have hms62_2 := NB127_123.out
              refine skip_ (w1 := ?_) (by rfl) rfl ?_ ?_
              rotate_left
              ·
               go_simp
               rfl
              refine hK.out _ _ ⟨((cell_far (p := ⟨gb127, _, none⟩) NB123_127.out _).trans (((cell_far (p := ⟨gb127, _, none⟩) NB123_127.out _).trans (hHeld.1)))), ((cell_far (p := ⟨gb127, _, none⟩) NB123_127.out _).trans (((cell_far (p := ⟨gb127, _, none⟩) NB123_127.out _).trans (hHeld.2))))⟩ (fun hHeld => ?_)
              clear hK K
              refine pure_ (i := 13) (N := some 9) (v := ?_) (a' := ?_) #[true, true, true, true, true, true, true, true, true, true, true, true, true, true] rfl rfl (any_of HT_.out (by kernel_rfl)) (fun _ _ _ h => h) (Or.inl ⟨by rfl, ?_⟩) ?_ ?_
              rotate_left
              ·
               intro w'
               go_simp
               with_reducible rfl
              rotate_left
              ·
               simp only [Act.put, List.setIfInBounds_toArray, List.set_cons_zero, List.set_cons_succ, i64_w, i32_w]
               rfl
              refine done_ (done_of HT_.out (by kernel_rfl)) ?_
              have hnb63 := NB118_127.out
              have hnc63 := NB127_118.out
              have hcz64_0 : w60.cell? ⟨gb118, 0, none⟩ = some (.int .u64 x119000_2) := (blk_cell BK118.out 0).trans rfl
              have hcz64_1 : w60.cell? ⟨gb118, 1, none⟩ = some (.int .u64 x119001_2) := (blk_cell BK118.out 1).trans rfl
              have hfz64_0 := blk_frozen BK118.out 0
              have hfz64_1 := blk_frozen BK118.out 1
              try go_wp2
              refine bodyPost_ret (results_ct rfl _ _ gb118 24 #[.int .u64 0, .int .u64 0] (0, 0) _ rfl (by (with_reducible repeat (first | refine blk_drewN ?_ _ | refine blk_drew ?_ | refine blk_alloc ?_ _)); refine blk_put (cs := #[.int .u64 0, .int .u64 x119001_2]) ?_ 1 _ rfl; (with_reducible repeat (first | refine blk_drewN ?_ _ | refine blk_drew ?_ | refine blk_alloc ?_ _)); refine blk_put (cs := #[.int .u64 x119000_2, .int .u64 x119001_2]) ?_ 0 _ rfl; (with_reducible repeat (first | refine blk_drewN ?_ _ | refine blk_drew ?_ | refine blk_alloc ?_ _)); refine blk_far ?_ NB118_127.out _; (with_reducible repeat (first | refine blk_drewN ?_ _ | refine blk_drew ?_ | refine blk_alloc ?_ _)); refine blk_far ?_ NB118_127.out _; (with_reducible repeat (first | refine blk_drewN ?_ _ | refine blk_drew ?_ | refine blk_alloc ?_ _)); exact BK118.out) Try.underlying24 rfl (by kernel_rfl)) rfl ?_
              exact ⟨by first | rfl | (simp [errW_none, errW_some] <;> rfl) | (simp [*, errW_none, errW_some] <;> rfl), by repeat (first | (with_reducible first | exact HB.out | apply below_alloc | apply pw_below_drewN | apply below_drew1 | refine below_set ?_ GE118.out | refine below_set ?_ GE119.out | refine below_set ?_ GE123.out | refine below_set ?_ GE127.out) | exact HB.out)⟩
            ·
             replace c28 := Bool.eq_false_iff.mpr c28
             subst c28
             have H1 : (some (0, 0, false)) = some (r1, r2, r3) := by rw [if_neg (show ¬ (false = true) by decide)] at H; exact H
             clear H
             have H := H1
             clear H1
             simp only [Option.some.injEq, Prod.mk.injEq] at H
             obtain ⟨rfl, rfl, rfl⟩ := H
             have hnb65 := NB119_118.out
             have hnc65 := NB118_119.out
             have hcz66_0 : wc.cell? ⟨gb119, 0, none⟩ = some (.int .u64 x120000_2) := (blk_cell BK119.out 0).trans rfl
             have hcz66_1 : wc.cell? ⟨gb119, 1, none⟩ = some (.int .u64 x120001_2) := (blk_cell BK119.out 1).trans rfl
             have hfz66_0 := blk_frozen BK119.out 0
             have hfz66_1 := blk_frozen BK119.out 1
             try go_wp2_with (first | ((with_reducible refine gate_callee (f := 26) rfl ?_); refine goesL_ (some 49) rfl rfl Try.func26 (by kernel_rfl) rfl #[.agg #[.int .u64 x120000_2, .int .u64 x120001_2], .agg #[.int .u64 0, .int .u64 10]] rfl (by (try simp only [List.map_toArray, List.map_cons, List.map_nil]); first | done | rfl | (simp only [List.length_drop, List.length_take]; rfl)) ?_; (with_reducible refine (samphireref01_Mul.calls x120000_2 x120001_2 0 10 t120 t121 false _ A23.out).mono ?_); rintro e w67 ⟨rfl, hb⟩; refine ⟨_, rfl, ?_⟩; have n0_ := Aside0.mk (blk_below (bT BK118.out) hb); have n1_ := Aside0.mk (blk_below (bT BK119.out) hb); have n2_ := Aside0.mk (below_step (bW HB.out) hb); clear BK118 BK119 HB; have BK118 := n0_; have BK119 := n1_; have HB := n2_; clear n0_ n1_ n2_; (try clear hb); (try clear hb2); (try clear hk); (try clear hi)) | ((with_reducible refine gate_dst (N := 6) rfl ?_); (try (refine gate_guard (by rfl) ?_; dsimp only)); refine box_event ?hg (N := 6) ?hd (cs := #[.int .u64 0, .int .u64 0]) (t := 24) ?hr ?_; (case hd => rfl); (case hg => rfl); (case hr => first | (go_simp; done) | (go_simp; rfl)); intro gb123 hg w68 hbox hb; have n0_ := Aside0.mk (blk_below (bT BK118.out) hb); have n1_ := Aside0.mk (blk_below (bT BK119.out) hb); have n2_ := Aside0.mk (below_step (bW HB.out) hb); have n3_ := Aside0.mk (hbox); have n4_ := Aside0.mk ((by rw [hg]; exact (below_size (bW HB.out)) : w.heap.size ≤ gb123)); have n5_ := Aside0.mk ((by rw [hg]; exact (below_size (bW HB.out)) : w.heap.size ≤ gb123)); have n6_ := Aside0.mk ((by rw [hg]; exact Nat.ne_of_lt (blk_lt (bT BK118.out)) : gb118 ≠ gb123)); have n7_ := Aside0.mk ((by rw [hg]; exact Nat.ne_of_gt (blk_lt (bT BK118.out)) : gb123 ≠ gb118)); have n8_ := Aside0.mk ((by rw [hg]; exact Nat.ne_of_lt (blk_lt (bT BK119.out)) : gb119 ≠ gb123)); have n9_ := Aside0.mk ((by rw [hg]; exact Nat.ne_of_gt (blk_lt (bT BK119.out)) : gb123 ≠ gb119)); clear BK118 BK119 HB; have BK118 := n0_; have BK119 := n1_; have HB := n2_; have BK123 := n3_; have GW123 := n4_; have GE123 := n5_; have NB118_123 := n6_; have NB123_118 := n7_; have NB119_123 := n8_; have NB123_119 := n9_; clear n0_ n1_ n2_ n3_ n4_ n5_ n6_ n7_ n8_ n9_ hb hbox hg; have hnb69 := NB123_118.out; have hnc69 := NB118_123.out; have hnb70 := NB123_119.out; have hnc70 := NB119_123.out; have hcz71_0 : w68.cell? ⟨gb123, 0, none⟩ = some (.int .u64 0) := (blk_cell BK123.out 0).trans rfl; have hcz71_1 : w68.cell? ⟨gb123, 1, none⟩ = some (.int .u64 0) := (blk_cell BK123.out 1).trans rfl; have hfz71_0 := blk_frozen BK123.out 0; have hfz71_1 := blk_frozen BK123.out 1))
             have n0_ : Aside0 (((w68.setCell ⟨gb123, 0, none⟩ (.int .u64 t120)).setCell ⟨gb123, 1, none⟩ (.int .u64 t121)).heap[gb118]? = some (.cells #[.int .u64 x119000_2, .int .u64 x119001_2] 24 (0, 0))) := ⟨by (with_reducible repeat (first | refine blk_drewN ?_ _ | refine blk_drew ?_ | refine blk_alloc ?_ _)); refine blk_far ?_ NB118_123.out _; (with_reducible repeat (first | refine blk_drewN ?_ _ | refine blk_drew ?_ | refine blk_alloc ?_ _)); refine blk_far ?_ NB118_123.out _; (with_reducible repeat (first | refine blk_drewN ?_ _ | refine blk_drew ?_ | refine blk_alloc ?_ _)); exact BK118.out⟩
             have n1_ : Aside0 (((w68.setCell ⟨gb123, 0, none⟩ (.int .u64 t120)).setCell ⟨gb123, 1, none⟩ (.int .u64 t121)).heap[gb119]? = some (.cells #[.int .u64 x120000_2, .int .u64 x120001_2] 24 (0, 0))) := ⟨by (with_reducible repeat (first | refine blk_drewN ?_ _ | refine blk_drew ?_ | refine blk_alloc ?_ _)); refine blk_far ?_ NB119_123.out _; (with_reducible repeat (first | refine blk_drewN ?_ _ | refine blk_drew ?_ | refine blk_alloc ?_ _)); refine blk_far ?_ NB119_123.out _; (with_reducible repeat (first | refine blk_drewN ?_ _ | refine blk_drew ?_ | refine blk_alloc ?_ _)); exact BK119.out⟩
             have n2_ : Aside0 (((w68.setCell ⟨gb123, 0, none⟩ (.int .u64 t120)).setCell ⟨gb123, 1, none⟩ (.int .u64 t121)).heap[gb123]? = some (.cells #[.int .u64 t120, .int .u64 t121] 24 (0, 0))) := ⟨by (with_reducible repeat (first | refine blk_drewN ?_ _ | refine blk_drew ?_ | refine blk_alloc ?_ _)); refine blk_put (cs := #[.int .u64 t120, .int .u64 0]) ?_ 1 _ rfl; (with_reducible repeat (first | refine blk_drewN ?_ _ | refine blk_drew ?_ | refine blk_alloc ?_ _)); refine blk_put (cs := #[.int .u64 0, .int .u64 0]) ?_ 0 _ rfl; (with_reducible repeat (first | refine blk_drewN ?_ _ | refine blk_drew ?_ | refine blk_alloc ?_ _)); exact BK123.out⟩
             have n3_ : Aside0 (Below w.heap.size w ((w68.setCell ⟨gb123, 0, none⟩ (.int .u64 t120)).setCell ⟨gb123, 1, none⟩ (.int .u64 t121))) := ⟨by repeat (first | (with_reducible first | exact HB.out | apply below_alloc | apply pw_below_drewN | apply below_drew1 | refine below_set ?_ GE118.out | refine below_set ?_ GE119.out | refine below_set ?_ GE123.out) | exact HB.out)⟩
             (try clear BK118)
             (try clear BK119)
             (try clear BK123)
             (try clear HB)
             generalize ((w68.setCell ⟨gb123, 0, none⟩ (.int .u64 t120)).setCell ⟨gb123, 1, none⟩ (.int .u64 t121)) = w72 at n0_ n1_ n2_ n3_ ⊢
             have BK118 := n0_
             have BK119 := n1_
             have BK123 := n2_
             have HB := n3_
             clear n0_ n1_ n2_ n3_
             have n0_ := Aside0.mk (blk_drew BK118.out)
             have n1_ := Aside0.mk (blk_drew BK119.out)
             have n2_ := Aside0.mk (blk_drew BK123.out)
             have n3_ := Aside0.mk (below_drew1 HB.out)
             clear BK118 BK119 BK123 HB
             have BK118 := n0_
             have BK119 := n1_
             have BK123 := n2_
             have HB := n3_
             clear n0_ n1_ n2_ n3_
             have p26 : 0 ≤ (x5_2 : Int) := of_decide_eq_true (by first | (with_reducible assumption) | assumption)
             have q26 : x5_2 < (a0.size : Int) := of_decide_eq_true (by first | (with_reducible assumption) | assumption)
             have hx26 := bt_at a0 x5_2
             replace p26 := eq_true p26
             replace q26 := eq_true q26
             refine start_ (n := 14) (S := fun w' => w'.cell? ⟨gb123, 0, none⟩ = some (.int .u64 t120) ∧ w'.cell? ⟨gb123, 1, none⟩ = some (.int .u64 t121)) (ds := []) #[false, false, false, false, false, false, false, false, false, false, false, false, false, false] (by kernel_rfl) rfl rfl ⟨(blk_cell BK123.out 0).trans rfl, (blk_cell BK123.out 1).trans rfl⟩ (fun hHeld => ?_); refine with_tabW samphireref01_Read.tab10 samphireref01_Read.bits10 (fun HT_ HW_ => ?_)
             generalize w72.drew = w73 at BK118 BK119 BK123 HB hHeld ⊢
             refine pure_ (i := 1) (N := some 54) (v := ?_) (a' := ?_) #[false, true, false, false, false, false, false, false, false, false, false, false, false, false] rfl rfl (any_of HT_.out (by kernel_rfl)) (fun _ _ _ h => h) (Or.inl ⟨by rfl, ?_⟩) ?_ ?_
             rotate_left
             ·
              intro w'
              go_simp
              with_reducible rfl
             rotate_left
             ·
              simp only [Act.put, List.setIfInBounds_toArray, List.set_cons_zero, List.set_cons_succ, i64_w, i32_w]
              rfl
             refine pure_ (i := 2) (N := some 55) (v := ?_) (a' := ?_) #[false, true, true, false, false, false, false, false, false, false, false, false, false, false] rfl rfl (any_of HT_.out (by kernel_rfl)) (fun _ _ _ h => h) (Or.inl ⟨by rfl, ?_⟩) ?_ ?_
             rotate_left
             ·
              intro w'
              go_simp
              with_reducible rfl
             rotate_left
             ·
              simp only [Act.put, List.setIfInBounds_toArray, List.set_cons_zero, List.set_cons_succ, i64_w, i32_w]
              rfl
             refine take_ (i := 0) (N := some 53) (v := ?_) (a' := ?_) #[true, true, true, false, false, false, false, false, false, false, false, false, false, false] rfl rfl (take_ofW HT_.out HW_.out (by kernel_rfl)) (fun _ _ _ h => h) (Or.inl ⟨by rfl, ?_⟩) hHeld ?_ ?_
             rotate_left
             ·
              rintro w' ⟨s0, s1⟩
              go_simp
              with_reducible rfl
             rotate_left
             ·
              simp only [Act.put, List.setIfInBounds_toArray, List.set_cons_zero, List.set_cons_succ, i64_w, i32_w]
              rfl
             refine take_ (i := 3) (N := some 56) (v := ?_) (a' := ?_) #[true, true, true, true, false, false, false, false, false, false, false, false, false, false] rfl rfl (take_ofW HT_.out HW_.out (by kernel_rfl)) (fun _ _ _ h => h) (Or.inl ⟨by rfl, ?_⟩) hHeld ?_ ?_
             rotate_left
             ·
              rintro w' ⟨s0, s1⟩
              go_simp
              with_reducible rfl
             rotate_left
             ·
              simp only [Act.put, List.setIfInBounds_toArray, List.set_cons_zero, List.set_cons_succ, i64_w, i32_w]
              rfl
             refine pure_ (i := 4) (N := some 57) (v := ?_) (a' := ?_) #[true, true, true, true, true, false, false, false, false, false, false, false, false, false] rfl rfl (any_of HT_.out (by kernel_rfl)) (fun _ _ _ h => h) (Or.inl ⟨by rfl, ?_⟩) ?_ ?_
             rotate_left
             ·
              intro w'
              go_simp
              with_reducible rfl
             rotate_left
             ·
              simp only [Act.put, List.setIfInBounds_toArray, List.set_cons_zero, List.set_cons_succ, i64_w, i32_w]
              rfl
             refine pure_ (i := 5) (N := some 58) (v := ?_) (a' := ?_) #[true, true, true, true, true, true, false, false, false, false, false, false, false, false] rfl rfl (any_of HT_.out (by kernel_rfl)) (fun _ _ _ h => h) (Or.inl ⟨by rfl, ?_⟩) ?_ ?_
             rotate_left
             ·
              intro w'
              go_simp
              with_reducible rfl
             rotate_left
             ·
              simp only [Act.put, List.setIfInBounds_toArray, List.set_cons_zero, List.set_cons_succ, i64_w, i32_w]
              rfl
             refine pure_ (i := 6) (N := some 59) (v := ?_) (a' := ?_) #[true, true, true, true, true, true, true, false, false, false, false, false, false, false] rfl rfl (any_of HT_.out (by kernel_rfl)) (fun _ _ _ h => h) (Or.inl ⟨by rfl, ?_⟩) ?_ ?_
             rotate_left
             ·
              intro w'
              go_simp
              with_reducible rfl
             rotate_left
             ·
              simp only [Act.put, List.setIfInBounds_toArray, List.set_cons_zero, List.set_cons_succ, i64_w, i32_w]
              rfl
             refine join_ (σ := Nat) 2 #[true, true, true, true, true, true, true, true, true, true, true, true, false, false] (fun s_ => [(60, .tuple #[.agg #[.int .u64 t124, .int .u64 t125], .bool t126]), (8, .pointer (some ⟨s_, 0, none⟩)), (52, .tuple #[.agg #[.int .u64 t124, .int .u64 t125], .bool t126]), (61, .agg #[.int .u64 t124, .int .u64 t125]), (62, .bool t126)]) (fun s_ w' => (w'.cell? ⟨gb123, 0, none⟩ = some (.int .u64 t120) ∧ w'.cell? ⟨gb123, 1, none⟩ = some (.int .u64 t121)) ∧ (w'.heap[gb118]? = some (.cells #[.int .u64 x119000_2, .int .u64 x119001_2] 24 (0, 0))) ∧ (w'.heap[gb119]? = some (.cells #[.int .u64 x120000_2, .int .u64 x120001_2] 24 (0, 0))) ∧ (w'.heap[gb123]? = some (.cells #[.int .u64 t120, .int .u64 t121] 24 (0, 0))) ∧ (w'.heap[s_]? = some (.cells #[.int .u64 0, .int .u64 0] 24 (0, 0))) ∧ (w.heap.size ≤ s_) ∧ (w.heap.size ≤ s_) ∧ (gb118 ≠ s_) ∧ (s_ ≠ gb118) ∧ (gb119 ≠ s_) ∧ (s_ ≠ gb119) ∧ (gb123 ≠ s_) ∧ (s_ ≠ gb123) ∧ (Below w.heap.size w w')) ?_ ?_
             rotate_left
             ·
              intro hCont
              refine two_ (i := 7) (j := 11) (Ni := some 60) (Nj := some 8) #[true, true, true, true, true, true, true, true, false, false, false, false, false, false] #[true, true, true, true, true, true, true, false, false, false, false, true, false, false] rfl rfl rfl rfl (two_of HT_.out (by kernel_rfl)) (by decide) (by decide) (fun K hK => ?_) (fun K hK => ?_)
              ·
               skip
               refine goes_ Try.func21 (by kernel_rfl) rfl #[.agg #[.int .u64 t120, .int .u64 t121], .agg #[.int .u64 0, .int .u64 (((bt a0 x5_2) - 48) % 256)]] (by rfl) rfl rfl (by (try simp only [List.map_toArray, List.map_cons, List.map_nil]); first | done | rfl | (simp [Act.eval]; rw [D.wrapE, u8wr]; omega)) ?_
               with_reducible refine (samphireref01_Add.calls t120 t121 0 (((bt a0 x5_2) - 48) % 256) t124 t125 t126 _ A27.out).mono ?_
               rintro e w74 ⟨rfl, hb⟩
               refine ⟨_, rfl, ?_⟩
               have n0_ := Aside0.mk (blk_below (bT BK118.out) hb)
               have n1_ := Aside0.mk (blk_below (bT BK119.out) hb)
               have n2_ := Aside0.mk (blk_below (bT BK123.out) hb)
               have n3_ := Aside0.mk (below_step (bW HB.out) hb)
               clear BK118 BK119 BK123 HB
               have BK118 := n0_
               have BK119 := n1_
               have BK123 := n2_
               have HB := n3_
               clear n0_ n1_ n2_ n3_
               (try clear hb)
               (try clear hb2)
               (try clear hk)
               (try clear hi)
               refine hK.out _ _ ⟨(blk_cell BK123.out 0).trans rfl, (blk_cell BK123.out 1).trans rfl⟩ (fun hHeld => ?_)
               clear hK K
               refine norm_ (a' := ?_) ?_ ?_
               rotate_left
               ·
                show Act.put _ (some 60) _ = _
                simp only [Act.put, List.setIfInBounds_toArray, List.set_cons_zero, List.set_cons_succ, i64_w, i32_w]
                rfl
               refine pure_ (i := 8) (N := some 52) (v := ?_) (a' := ?_) #[true, true, true, true, true, true, true, true, true, false, false, false, false, false] rfl rfl (any_of HT_.out (by kernel_rfl)) (fun _ _ _ h => h) (Or.inl ⟨by rfl, ?_⟩) ?_ ?_
               rotate_left
               ·
                intro w'
                go_simp
                with_reducible rfl
               rotate_left
               ·
                simp only [Act.put, List.setIfInBounds_toArray, List.set_cons_zero, List.set_cons_succ, i64_w, i32_w]
                rfl
               refine pure_ (i := 9) (N := some 61) (v := ?_) (a' := ?_) #[true, true, true, true, true, true, true, true, true, true, false, false, false, false] rfl rfl (any_of HT_.out (by kernel_rfl)) (fun _ _ _ h => h) (Or.inl ⟨by rfl, ?_⟩) ?_ ?_
               rotate_left
               ·
                intro w'
                go_simp
                with_reducible rfl
               rotate_left
               ·
                simp only [Act.put, List.setIfInBounds_toArray, List.set_cons_zero, List.set_cons_succ, i64_w, i32_w]
                rfl
               refine pure_ (i := 10) (N := some 62) (v := ?_) (a' := ?_) #[true, true, true, true, true, true, true, true, true, true, true, false, false, false] rfl rfl (any_of HT_.out (by kernel_rfl)) (fun _ _ _ h => h) (Or.inl ⟨by rfl, ?_⟩) ?_ ?_
               rotate_left
               ·
                intro w'
                go_simp
                with_reducible rfl
               rotate_left
               ·
                simp only [Act.put, List.setIfInBounds_toArray, List.set_cons_zero, List.set_cons_succ, i64_w, i32_w]
                rfl
               refine one_ (i := 11) (N := some 8) #[true, true, true, true, true, true, true, true, true, true, true, true, false, false] rfl rfl (one_of HT_.out (by kernel_rfl)) (by decide) (fun K hK => ?_)
               refine box_step ?hg (N := 8) ?hd (cs := #[.int .u64 0, .int .u64 0]) (t := 24) ?hr ?_; (case hd => rfl); (case hg => rfl); (case hr => first | (go_simp; done) | (go_simp; rfl))
               intro gb127 hg w75 hbox hb
               have n0_ := Aside0.mk (blk_below (bT BK118.out) hb)
               have n1_ := Aside0.mk (blk_below (bT BK119.out) hb)
               have n2_ := Aside0.mk (blk_below (bT BK123.out) hb)
               have n3_ := Aside0.mk (below_step (bW HB.out) hb)
               have n4_ := Aside0.mk (hbox)
               have n5_ := Aside0.mk ((by rw [hg]; exact (below_size (bW HB.out)) : w.heap.size ≤ gb127))
               have n6_ := Aside0.mk ((by rw [hg]; exact (below_size (bW HB.out)) : w.heap.size ≤ gb127))
               have n7_ := Aside0.mk ((by rw [hg]; exact Nat.ne_of_lt (blk_lt (bT BK118.out)) : gb118 ≠ gb127))
               have n8_ := Aside0.mk ((by rw [hg]; exact Nat.ne_of_gt (blk_lt (bT BK118.out)) : gb127 ≠ gb118))
               have n9_ := Aside0.mk ((by rw [hg]; exact Nat.ne_of_lt (blk_lt (bT BK119.out)) : gb119 ≠ gb127))
               have n10_ := Aside0.mk ((by rw [hg]; exact Nat.ne_of_gt (blk_lt (bT BK119.out)) : gb127 ≠ gb119))
               have n11_ := Aside0.mk ((by rw [hg]; exact Nat.ne_of_lt (blk_lt (bT BK123.out)) : gb123 ≠ gb127))
               have n12_ := Aside0.mk ((by rw [hg]; exact Nat.ne_of_gt (blk_lt (bT BK123.out)) : gb127 ≠ gb123))
               clear BK118 BK119 BK123 HB
               have BK118 := n0_
               have BK119 := n1_
               have BK123 := n2_
               have HB := n3_
               have BK127 := n4_
               have GW127 := n5_
               have GE127 := n6_
               have NB118_127 := n7_
               have NB127_118 := n8_
               have NB119_127 := n9_
               have NB127_119 := n10_
               have NB123_127 := n11_
               have NB127_123 := n12_
               clear n0_ n1_ n2_ n3_ n4_ n5_ n6_ n7_ n8_ n9_ n10_ n11_ n12_ hb hbox hg
               refine hK.out _ _ ⟨(blk_cell BK123.out 0).trans rfl, (blk_cell BK123.out 1).trans rfl⟩ (fun hHeld => ?_)
               clear hK K
               refine norm_ (a' := ?_) ?_ ?_
               rotate_left
               ·
                show Act.put _ (some 8) _ = _
                simp only [Act.put, List.setIfInBounds_toArray, List.set_cons_zero, List.set_cons_succ, i64_w, i32_w]
                rfl
               exact norm_ (by simp only [putAll, Act.put, List.setIfInBounds_toArray, List.set_cons_zero, List.set_cons_succ]) (hCont (gb127) _ ⟨hHeld, (bT BK118.out), (bT BK119.out), (bT BK123.out), (bT BK127.out), GW127.out, GE127.out, NB118_127.out, NB127_118.out, NB119_127.out, NB127_119.out, NB123_127.out, NB127_123.out, (bW HB.out)⟩)
              ·
               skip
               refine box_step ?hg (N := 8) ?hd (cs := #[.int .u64 0, .int .u64 0]) (t := 24) ?hr ?_; (case hd => rfl); (case hg => rfl); (case hr => first | (go_simp; done) | (go_simp; rfl))
               intro gb127 hg w74 hbox hb
               have n0_ := Aside0.mk (blk_below (bT BK118.out) hb)
               have n1_ := Aside0.mk (blk_below (bT BK119.out) hb)
               have n2_ := Aside0.mk (blk_below (bT BK123.out) hb)
               have n3_ := Aside0.mk (below_step (bW HB.out) hb)
               have n4_ := Aside0.mk (hbox)
               have n5_ := Aside0.mk ((by rw [hg]; exact (below_size (bW HB.out)) : w.heap.size ≤ gb127))
               have n6_ := Aside0.mk ((by rw [hg]; exact (below_size (bW HB.out)) : w.heap.size ≤ gb127))
               have n7_ := Aside0.mk ((by rw [hg]; exact Nat.ne_of_lt (blk_lt (bT BK118.out)) : gb118 ≠ gb127))
               have n8_ := Aside0.mk ((by rw [hg]; exact Nat.ne_of_gt (blk_lt (bT BK118.out)) : gb127 ≠ gb118))
               have n9_ := Aside0.mk ((by rw [hg]; exact Nat.ne_of_lt (blk_lt (bT BK119.out)) : gb119 ≠ gb127))
               have n10_ := Aside0.mk ((by rw [hg]; exact Nat.ne_of_gt (blk_lt (bT BK119.out)) : gb127 ≠ gb119))
               have n11_ := Aside0.mk ((by rw [hg]; exact Nat.ne_of_lt (blk_lt (bT BK123.out)) : gb123 ≠ gb127))
               have n12_ := Aside0.mk ((by rw [hg]; exact Nat.ne_of_gt (blk_lt (bT BK123.out)) : gb127 ≠ gb123))
               clear BK118 BK119 BK123 HB
               have BK118 := n0_
               have BK119 := n1_
               have BK123 := n2_
               have HB := n3_
               have BK127 := n4_
               have GW127 := n5_
               have GE127 := n6_
               have NB118_127 := n7_
               have NB127_118 := n8_
               have NB119_127 := n9_
               have NB127_119 := n10_
               have NB123_127 := n11_
               have NB127_123 := n12_
               clear n0_ n1_ n2_ n3_ n4_ n5_ n6_ n7_ n8_ n9_ n10_ n11_ n12_ hb hbox hg
               refine hK.out _ _ ⟨(blk_cell BK123.out 0).trans rfl, (blk_cell BK123.out 1).trans rfl⟩ (fun hHeld => ?_)
               clear hK K
               refine norm_ (a' := ?_) ?_ ?_
               rotate_left
               ·
                show Act.put _ (some 8) _ = _
                simp only [Act.put, List.setIfInBounds_toArray, List.set_cons_zero, List.set_cons_succ, i64_w, i32_w]
                rfl
               refine one_ (i := 7) (N := some 60) #[true, true, true, true, true, true, true, true, false, false, false, true, false, false] rfl rfl (one_of HT_.out (by kernel_rfl)) (by decide) (fun K hK => ?_)
               refine goes_ Try.func21 (by kernel_rfl) rfl #[.agg #[.int .u64 t120, .int .u64 t121], .agg #[.int .u64 0, .int .u64 (((bt a0 x5_2) - 48) % 256)]] (by rfl) rfl rfl (by (try simp only [List.map_toArray, List.map_cons, List.map_nil]); first | done | rfl | (simp [Act.eval]; rw [D.wrapE, u8wr]; omega)) ?_
               with_reducible refine (samphireref01_Add.calls t120 t121 0 (((bt a0 x5_2) - 48) % 256) t124 t125 t126 _ A27.out).mono ?_
               rintro e w75 ⟨rfl, hb⟩
               refine ⟨_, rfl, ?_⟩
               have n0_ := Aside0.mk (blk_below (bT BK118.out) hb)
               have n1_ := Aside0.mk (blk_below (bT BK119.out) hb)
               have n2_ := Aside0.mk (blk_below (bT BK123.out) hb)
               have n3_ := Aside0.mk (blk_below (bT BK127.out) hb)
               have n4_ := Aside0.mk (below_step (bW HB.out) hb)
               clear BK118 BK119 BK123 BK127 HB
               have BK118 := n0_
               have BK119 := n1_
               have BK123 := n2_
               have BK127 := n3_
               have HB := n4_
               clear n0_ n1_ n2_ n3_ n4_
               (try clear hb)
               (try clear hb2)
               (try clear hk)
               (try clear hi)
               refine hK.out _ _ ⟨(blk_cell BK123.out 0).trans rfl, (blk_cell BK123.out 1).trans rfl⟩ (fun hHeld => ?_)
               clear hK K
               refine norm_ (a' := ?_) ?_ ?_
               rotate_left
               ·
                show Act.put _ (some 60) _ = _
                simp only [Act.put, List.setIfInBounds_toArray, List.set_cons_zero, List.set_cons_succ, i64_w, i32_w]
                rfl
               refine pure_ (i := 8) (N := some 52) (v := ?_) (a' := ?_) #[true, true, true, true, true, true, true, true, true, false, false, true, false, false] rfl rfl (any_of HT_.out (by kernel_rfl)) (fun _ _ _ h => h) (Or.inl ⟨by rfl, ?_⟩) ?_ ?_
               rotate_left
               ·
                intro w'
                go_simp
                with_reducible rfl
               rotate_left
               ·
                simp only [Act.put, List.setIfInBounds_toArray, List.set_cons_zero, List.set_cons_succ, i64_w, i32_w]
                rfl
               refine pure_ (i := 9) (N := some 61) (v := ?_) (a' := ?_) #[true, true, true, true, true, true, true, true, true, true, false, true, false, false] rfl rfl (any_of HT_.out (by kernel_rfl)) (fun _ _ _ h => h) (Or.inl ⟨by rfl, ?_⟩) ?_ ?_
               rotate_left
               ·
                intro w'
                go_simp
                with_reducible rfl
               rotate_left
               ·
                simp only [Act.put, List.setIfInBounds_toArray, List.set_cons_zero, List.set_cons_succ, i64_w, i32_w]
                rfl
               refine pure_ (i := 10) (N := some 62) (v := ?_) (a' := ?_) #[true, true, true, true, true, true, true, true, true, true, true, true, false, false] rfl rfl (any_of HT_.out (by kernel_rfl)) (fun _ _ _ h => h) (Or.inl ⟨by rfl, ?_⟩) ?_ ?_
               rotate_left
               ·
                intro w'
                go_simp
                with_reducible rfl
               rotate_left
               ·
                simp only [Act.put, List.setIfInBounds_toArray, List.set_cons_zero, List.set_cons_succ, i64_w, i32_w]
                rfl
               exact norm_ (by simp only [putAll, Act.put, List.setIfInBounds_toArray, List.set_cons_zero, List.set_cons_succ]) (hCont (gb127) _ ⟨hHeld, (bT BK118.out), (bT BK119.out), (bT BK123.out), (bT BK127.out), GW127.out, GE127.out, NB118_127.out, NB127_118.out, NB119_127.out, NB127_119.out, NB123_127.out, NB127_123.out, (bW HB.out)⟩)
             rintro gb127 w76 ⟨hS_, h0_, h1_, h2_, h3_, h4_, h5_, h6_, h7_, h8_, h9_, h10_, h11_, h12_⟩
             have n0_ : Aside0 (w76.heap[gb118]? = some (.cells #[.int .u64 x119000_2, .int .u64 x119001_2] 24 (0, 0))) := ⟨h0_⟩
             have n1_ : Aside0 (w76.heap[gb119]? = some (.cells #[.int .u64 x120000_2, .int .u64 x120001_2] 24 (0, 0))) := ⟨h1_⟩
             have n2_ : Aside0 (w76.heap[gb123]? = some (.cells #[.int .u64 t120, .int .u64 t121] 24 (0, 0))) := ⟨h2_⟩
             have n3_ : Aside0 (w76.heap[gb127]? = some (.cells #[.int .u64 0, .int .u64 0] 24 (0, 0))) := ⟨h3_⟩
             have n4_ : Aside0 (w.heap.size ≤ gb127) := ⟨h4_⟩
             have n5_ : Aside0 (w.heap.size ≤ gb127) := ⟨h5_⟩
             have n6_ : Aside0 (gb118 ≠ gb127) := ⟨h6_⟩
             have n7_ : Aside0 (gb127 ≠ gb118) := ⟨h7_⟩
             have n8_ : Aside0 (gb119 ≠ gb127) := ⟨h8_⟩
             have n9_ : Aside0 (gb127 ≠ gb119) := ⟨h9_⟩
             have n10_ : Aside0 (gb123 ≠ gb127) := ⟨h10_⟩
             have n11_ : Aside0 (gb127 ≠ gb123) := ⟨h11_⟩
             have n12_ : Aside0 (Below w.heap.size w w76) := ⟨h12_⟩
             clear BK118 BK119 BK123 HB h0_ h1_ h2_ h3_ h4_ h5_ h6_ h7_ h8_ h9_ h10_ h11_ h12_
             have BK118 := n0_
             have BK119 := n1_
             have BK123 := n2_
             have BK127 := n3_
             have GW127 := n4_
             have GE127 := n5_
             have NB118_127 := n6_
             have NB127_118 := n7_
             have NB119_127 := n8_
             have NB127_119 := n9_
             have NB123_127 := n10_
             have NB127_123 := n11_
             have HB := n12_
             clear n0_ n1_ n2_ n3_ n4_ n5_ n6_ n7_ n8_ n9_ n10_ n11_ n12_
             have hHeld : w76.cell? ⟨gb123, 0, none⟩ = some (.int .u64 t120) ∧ w76.cell? ⟨gb123, 1, none⟩ = some (.int .u64 t121) := hS_
             refine norm_ (a' := ?_) ?_ ?_
             rotate_left
             ·
              simp only [putAll, Act.put, List.setIfInBounds_toArray, List.set_cons_zero, List.set_cons_succ]
              rfl
             refine one_ (i := 12) (N := none) #[true, true, true, true, true, true, true, true, true, true, true, true, true, false] rfl rfl (one_of HT_.out (by kernel_rfl)) (by decide) (fun K hK => ?_)
             have hs77 : w76.cell? ⟨gb127, 0, none⟩ = some (.int .u64 0) := (blk_cell BK127.out 0).trans rfl
             have hfs77 := blk_frozen BK127.out 0
             have hns77_0 := NB118_127.out
             have hns77_1 := NB119_127.out
             have hns77_2 := NB123_127.out
             have hms77_0 := NB127_118.out
             have hms77_1 := NB127_119.out
             have hms77_2 := NB127_123.out
             have hs78 : w76.cell? ⟨gb127, 1, none⟩ = some (.int .u64 0) := (blk_cell BK127.out 1).trans rfl
             have hfs78 := blk_frozen BK127.out 1
             have hns78_0 := NB118_127.out
             have hns78_1 := NB119_127.out
             have hns78_2 := NB123_127.out
             have hms78_0 := NB127_118.out
             have hms78_1 := NB127_119.out
             have hms78_2 := NB127_123.out
             refine skip_ (w1 := ?_) (by rfl) rfl ?_ ?_
             rotate_left
             ·
              go_simp
              rfl
             refine hK.out _ _ ⟨((cell_far (p := ⟨gb127, _, none⟩) NB123_127.out _).trans (((cell_far (p := ⟨gb127, _, none⟩) NB123_127.out _).trans (hHeld.1)))), ((cell_far (p := ⟨gb127, _, none⟩) NB123_127.out _).trans (((cell_far (p := ⟨gb127, _, none⟩) NB123_127.out _).trans (hHeld.2))))⟩ (fun hHeld => ?_)
             clear hK K
             refine pure_ (i := 13) (N := some 9) (v := ?_) (a' := ?_) #[true, true, true, true, true, true, true, true, true, true, true, true, true, true] rfl rfl (any_of HT_.out (by kernel_rfl)) (fun _ _ _ h => h) (Or.inl ⟨by rfl, ?_⟩) ?_ ?_
             rotate_left
             ·
              intro w'
              go_simp
              with_reducible rfl
             rotate_left
             ·
              simp only [Act.put, List.setIfInBounds_toArray, List.set_cons_zero, List.set_cons_succ, i64_w, i32_w]
              rfl
             refine done_ (done_of HT_.out (by kernel_rfl)) ?_
             have hnb79 := NB118_127.out
             have hnc79 := NB127_118.out
             have hcz80_0 : w76.cell? ⟨gb118, 0, none⟩ = some (.int .u64 x119000_2) := (blk_cell BK118.out 0).trans rfl
             have hcz80_1 : w76.cell? ⟨gb118, 1, none⟩ = some (.int .u64 x119001_2) := (blk_cell BK118.out 1).trans rfl
             have hfz80_0 := blk_frozen BK118.out 0
             have hfz80_1 := blk_frozen BK118.out 1
             try go_wp2
             refine bodyPost_ret (results_ct rfl _ _ gb118 24 #[.int .u64 0, .int .u64 0] (0, 0) _ rfl (by (with_reducible repeat (first | refine blk_drewN ?_ _ | refine blk_drew ?_ | refine blk_alloc ?_ _)); refine blk_put (cs := #[.int .u64 0, .int .u64 x119001_2]) ?_ 1 _ rfl; (with_reducible repeat (first | refine blk_drewN ?_ _ | refine blk_drew ?_ | refine blk_alloc ?_ _)); refine blk_put (cs := #[.int .u64 x119000_2, .int .u64 x119001_2]) ?_ 0 _ rfl; (with_reducible repeat (first | refine blk_drewN ?_ _ | refine blk_drew ?_ | refine blk_alloc ?_ _)); refine blk_far ?_ NB118_127.out _; (with_reducible repeat (first | refine blk_drewN ?_ _ | refine blk_drew ?_ | refine blk_alloc ?_ _)); refine blk_far ?_ NB118_127.out _; (with_reducible repeat (first | refine blk_drewN ?_ _ | refine blk_drew ?_ | refine blk_alloc ?_ _)); exact BK118.out) Try.underlying24 rfl (by kernel_rfl)) rfl ?_
             exact ⟨by first | rfl | (simp [errW_none, errW_some] <;> rfl) | (simp [*, errW_none, errW_some] <;> rfl), by repeat (first | (with_reducible first | exact HB.out | apply below_alloc | apply pw_below_drewN | apply below_drew1 | refine below_set ?_ GE118.out | refine below_set ?_ GE119.out | refine below_set ?_ GE123.out | refine below_set ?_ GE127.out) | exact HB.out)⟩
           ·
            rw [if_neg c25] at H
            exact absurd H (by simp)
          ·
           rw [if_neg c24] at H
           exact absurd H (by simp)
      ·
       rw [if_neg c14] at H
       have c14b0 : decide (x5_2 < (a0.size : Int)) = false := decide_eq_false c14
       clear c14
       simp only [Option.some.injEq, Prod.mk.injEq] at H
       obtain ⟨rfl, rfl, rfl⟩ := H
       have hnb81 := NB119_118.out
       have hnc81 := NB118_119.out
       have hcz82_0 : wr.cell? ⟨gb119, 0, none⟩ = some (.int .u64 x120000_2) := (blk_cell BK119.out 0).trans rfl
       have hcz82_1 : wr.cell? ⟨gb119, 1, none⟩ = some (.int .u64 x120001_2) := (blk_cell BK119.out 1).trans rfl
       have hfz82_0 := blk_frozen BK119.out 0
       have hfz82_1 := blk_frozen BK119.out 1
       have hcz83_0 : wr.cell? ⟨gb118, 0, none⟩ = some (.int .u64 x119000_2) := (blk_cell BK118.out 0).trans rfl
       have hcz83_1 : wr.cell? ⟨gb118, 1, none⟩ = some (.int .u64 x119001_2) := (blk_cell BK118.out 1).trans rfl
       have hfz83_0 := blk_frozen BK118.out 0
       have hfz83_1 := blk_frozen BK118.out 1
       go_wp2
       refine bodyPost_ret (results_ct rfl _ _ gb118 24 #[.int .u64 x120000_2, .int .u64 x120001_2] (0, 0) _ rfl (by (with_reducible repeat (first | refine blk_drewN ?_ _ | refine blk_drew ?_ | refine blk_alloc ?_ _)); refine blk_put (cs := #[.int .u64 x120000_2, .int .u64 x119001_2]) ?_ 1 _ rfl; (with_reducible repeat (first | refine blk_drewN ?_ _ | refine blk_drew ?_ | refine blk_alloc ?_ _)); refine blk_put (cs := #[.int .u64 x119000_2, .int .u64 x119001_2]) ?_ 0 _ rfl; (with_reducible repeat (first | refine blk_drewN ?_ _ | refine blk_drew ?_ | refine blk_alloc ?_ _)); exact BK118.out) Try.underlying24 rfl (by kernel_rfl)) rfl ?_
       exact ⟨by first | rfl | (simp [errW_none, errW_some] <;> rfl) | (simp [*, errW_none, errW_some] <;> rfl), by repeat (first | (with_reducible first | exact HB.out | apply below_alloc | apply pw_below_drewN | apply below_drew1 | refine below_set ?_ GE118.out | refine below_set ?_ GE119.out) | exact HB.out)⟩
end Go.Proofs.Ytbpcehbcbcojiaa.G
