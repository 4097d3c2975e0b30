import Derived.Test.YtbpcehbcbcojiaaTx0
namespace Go.Proofs.Ytbpcehbcbcojiaa.T
open Go.Proofs.Ytbpcehbcbcojiaa.Q Go.RowKit Go.Proofs.YtbpcehbcbcojiaaW.PrintWords Go.Proofs.YtbpcehbcbcojiaaW.PrintLast Go.Proofs.YtbpcehbcbcojiaaW.PrintMore
attribute [local go_sem] max2_int min2_int max_two min_two max_three min_three max_four min_four
set_option linter.unusedVariables false
set_option linter.unusedSimpArgs false
mutual
def wide_Read.j0 : Nat → ByteArray → Bool → Option (Int × Int × Bool)
 | 0, _, _ => none
 | k + 1, x0, x22 => if x22 = true then (some (0, 0, false)) else (wide_Read.l0 k x0 (x0.size : Int) 0 0 0)
def wide_Read.l0 : Nat → ByteArray → Int → Int → Int → Int → Option (Int × Int × Bool)
 | 0, _, _, _, _, _ => none
 | k + 1, x0, x25, x26, x136000, x136001 => if x26 < x25 then (if 0 ≤ x26 then (if x26 < (x0.size : Int) then (if (((bt x0 x26) - 48) % 256) ≥ 10 then (some (0, 0, false)) else ((wide_Of.f 10).bind fun bt136 => ((wide_Mul.f x136000 x136001 bt136.1 bt136.2).bind fun bt138 => ((wide_Of.f (((bt x0 x26) - 48) % 256)).bind fun bt142 => ((wide_Add.f bt138.1 bt138.2.1 bt142.1 bt142.2).bind fun bt144 => (if bt138.2.2 = true then (if bt144.2.2 = true then (wide_Read.l0 k x0 x25 (wrap64 (x26 + 1)) bt144.1 bt144.2.1) else (some (0, 0, false))) else (some (0, 0, false)))))))) else (none)) else (none)) else (some (x136000, x136001, true))
end
def wide_Read.f (k : Nat) (a0 : ByteArray) : Option (Int × Int × Bool) := if a0.toList = ([] : List UInt8) then (wide_Read.j0 k a0 true) else (if 0 < (a0.size : Int) then (if (bt a0 0) = 48 then (wide_Read.j0 k a0 (decide ((a0.size : Int) > 1))) else (wide_Read.j0 k a0 false)) else (none))
def wide_Read.T10 : Bool × List (List Nat × List Nat) := (true, [([], []), ([], []), ([0, 1, 1], [0, 1]), ([2], [2]), ([3], [3]), ([3], [3]), ([], []), ([6, 4, 2, 0, 1, 2, 3, 4, 6], [4, 6]), ([5, 7, 0, 1, 2, 3, 4, 5, 6, 7], [5])])
def wide_Read.B10 : List Nat := [0, 0, 3, 7, 15, 15, 0, 95, 255]
theorem wide_Read.tab10 : rtab .any (opsOf Try.f12 10) = wide_Read.T10 := by kernel_rfl
theorem wide_Read.bits10 : waitsOk wide_Read.T10.2 wide_Read.B10 = true := by kernel_rfl
def wide_Read.T11 : Bool × List (List Nat × List Nat) := (true, [([], []), ([], []), ([1], [1]), ([2], [2]), ([0, 3, 3], [0, 3]), ([4], [4]), ([5], [5]), ([5], [5]), ([], []), ([8, 6, 4, 0, 1, 2, 3, 4, 5, 6, 8], [6, 8]), ([7, 9, 0, 1, 2, 3, 4, 5, 6, 7, 8, 9], [7])])
def wide_Read.B11 : List Nat := [0, 0, 2, 6, 15, 31, 63, 63, 0, 383, 1023]
theorem wide_Read.tab11 : rtab .any (opsOf Try.f12 11) = wide_Read.T11 := by kernel_rfl
theorem wide_Read.bits11 : waitsOk wide_Read.T11.2 wide_Read.B11 = true := by kernel_rfl
set_option maxHeartbeats 8000000 in
set_option maxRecDepth 100000 in
theorem wide_Read.calls (k : Nat) (a0 : ByteArray) (r1 : Int) (r2 : Int) (r3 : Bool) (w : World) (h : wide_Read.f k a0 = some (r1, r2, r3)) :
  Calls Try.prog 12 #[.string a0] w fun e w' => e = .returned (.tuple #[.agg #[.int .u64 r1, .int .u64 r2], .bool r3]) ∧ Below w.heap.size w w' := by
 have hu24 := Try.underlying24
 have HB := Aside0.mk (Below.refl w.heap.size w)
 have H : (if a0.toList = ([] : List UInt8) then (wide_Read.j0 k a0 true) else (if 0 < (a0.size : Int) then (if (bt a0 0) = 48 then (wide_Read.j0 k a0 (decide ((a0.size : Int) > 1))) else (wide_Read.j0 k a0 false)) else (none))) = some (r1, r2, r3) := h
 clear h
 have HC2 := Aside0.mk H
 clear H
 go_enter Try.func12, Try.ntmps12
 go_upto_region 1 with (first | ((with_reducible refine gate_dst (N := 2) rfl ?_); (try (refine gate_guard (by rfl) ?_; dsimp only)); refine box_event ?hg (N := 2) ?hd (cs := #[.int .u64 0, .int .u64 0]) (t := 24) ?hr ?_; (case hd => rfl); (case hg => rfl); (case hr => first | (go_simp; done) | (go_simp; rfl)); intro gb134 hg w3 hbox hb; have n0_ := Aside0.mk (below_step (bW HB.out) hb); have n1_ := Aside0.mk (hbox); have n2_ := Aside0.mk ((by rw [hg]; exact (below_size (bW HB.out)) : w.heap.size ≤ gb134)); have n3_ := Aside0.mk ((by rw [hg]; exact (below_size (bW HB.out)) : w.heap.size ≤ gb134)); clear HB; have HB := n0_; have BK134 := n1_; have GW134 := n2_; have GE134 := n3_; clear n0_ n1_ n2_ n3_ hb hbox hg))
 (try simp only [Act.put, List.setIfInBounds_toArray, List.set_cons_zero, List.set_cons_succ])
 go_cut [22] (fun v22 wc => ∃ (kq : Nat) (x22_1 : Bool), v22 = .bool x22_1 ∧ Aside0 (wide_Read.j0 kq a0 x22_1 = some (r1, r2, r3)) ∧ Aside0 (kq ≤ k) ∧ Aside0 (wc.heap[gb134]? = some (.cells #[.int .u64 0, .int .u64 0] 24 (0, 0))) ∧ Aside0 (Below w.heap.size w wc))
 case first =>
  have H := HC2.out
  clear HC2
  by_cases c4 : a0.toList = ([] : List UInt8)
  ·
   rw [if_pos c4] at H
   have c4b0 : (a0.toList == ([] : List UInt8)) = true := beq_iff_eq.mpr c4
   have c4b1 : (a0.toList != ([] : List UInt8)) = false := bne_eq_false_iff_eq.mpr c4
   clear c4
   (first | rw [c4b0] | (simp only [i64_w, i32_w]; rw [c4b0]) | skip)
   have H' := Aside0.mk H
   clear H
   go_wp2
   go_meet
   case rel => exact ⟨_, (true), (by first | rfl | (simp; done) | (simp [*]; done)), H', ⟨by first | omega | exact Nat.le_refl _⟩, ⟨by (with_reducible repeat (first | refine blk_drewN ?_ _ | refine blk_drew ?_ | refine blk_alloc ?_ _)); exact BK134.out⟩, ⟨by repeat (first | (with_reducible first | exact HB.out | apply below_alloc | apply pw_below_drewN | apply below_drew1 | refine below_set ?_ GE134.out) | exact HB.out)⟩⟩
  ·
   rw [if_neg c4] at H
   have c4b0 : (a0.toList == ([] : List UInt8)) = false := beq_eq_false_iff_ne.mpr c4
   have c4b1 : (a0.toList != ([] : List UInt8)) = true := bne_iff_ne.mpr c4
   (first | rw [c4b0] | (simp only [i64_w, i32_w]; rw [c4b0]) | skip)
   by_cases c5 : 0 < (a0.size : Int)
   ·
    rw [if_pos c5] at H
    have c5b0 : decide (0 < (a0.size : Int)) = true := decide_eq_true c5
    have c5b1 : decide (0 < a0.size) = true := decide_eq_true (by omega)
    clear c5
    by_cases c7 : (bt a0 0) = 48
    ·
     rw [if_pos c7] at H
     have c7b0 : ((bt a0 0) == 48) = true := beq_iff_eq.mpr c7
     have c7b1 : ((bt a0 0) != 48) = false := bne_eq_false_iff_eq.mpr c7
     clear c7
     have H' := Aside0.mk H
     clear H
     have p6 : 0 ≤ (0 : Int) := (by omega)
     have q6 : 0 < a0.size := (by have : (0 : Int) < (a0.size : Int) := of_decide_eq_true (by first | (with_reducible assumption) | assumption); omega)
     have hx6 : ∀ h : 0 < a0.size, ((a0[0]'h).toNat : Int) = bt a0 0 := bt_at a0 0
     clear p6
     have qi6 : (0 < (a0.size : Int)) = True := eq_true (of_decide_eq_true (by first | (with_reducible assumption) | assumption))
     replace q6 := eq_true q6
     go_wp2
     go_meet
     case rel => exact ⟨_, (decide ((a0.size : Int) > 1)), (by first | rfl | (simp; done) | (simp [*]; done)), H', ⟨by first | omega | exact Nat.le_refl _⟩, ⟨by (with_reducible repeat (first | refine blk_drewN ?_ _ | refine blk_drew ?_ | refine blk_alloc ?_ _)); exact BK134.out⟩, ⟨by repeat (first | (with_reducible first | exact HB.out | apply below_alloc | apply pw_below_drewN | apply below_drew1 | refine below_set ?_ GE134.out) | exact HB.out)⟩⟩
    ·
     rw [if_neg c7] at H
     have c7b0 : ((bt a0 0) == 48) = false := beq_eq_false_iff_ne.mpr c7
     have c7b1 : ((bt a0 0) != 48) = true := bne_iff_ne.mpr c7
     have H' := Aside0.mk H
     clear H
     have p6 : 0 ≤ (0 : Int) := (by omega)
     have q6 : 0 < a0.size := (by have : (0 : Int) < (a0.size : Int) := of_decide_eq_true (by first | (with_reducible assumption) | assumption); omega)
     have hx6 : ∀ h : 0 < a0.size, ((a0[0]'h).toNat : Int) = bt a0 0 := bt_at a0 0
     clear p6
     have qi6 : (0 < (a0.size : Int)) = True := eq_true (of_decide_eq_true (by first | (with_reducible assumption) | assumption))
     replace q6 := eq_true q6
     go_wp2
     go_meet
     case rel => exact ⟨_, (false), (by first | rfl | (simp; done) | (simp [*]; done)), H', ⟨by first | omega | exact Nat.le_refl _⟩, ⟨by (with_reducible repeat (first | refine blk_drewN ?_ _ | refine blk_drew ?_ | refine blk_alloc ?_ _)); exact BK134.out⟩, ⟨by repeat (first | (with_reducible first | exact HB.out | apply below_alloc | apply pw_below_drewN | apply below_drew1 | refine below_set ?_ GE134.out) | exact HB.out)⟩⟩
   ·
    rw [if_neg c5] at H
    exact absurd H (by simp)
 case rest =>
  clear HC2
  try clear c1
  try clear p2
  try clear c4
  try clear c4b0
  try clear c4b1
  try clear c5
  try clear c5b0
  try clear c5b1
  try clear p6
  try clear q6
  try clear hx6
  try clear qi6
  try clear c7
  try clear c7b0
  try clear c7b1
  try clear p6
  try clear q6
  obtain ⟨kq, x22_1, rfl, HA, HJ1, BK134, HB⟩ := hcut
  cases kq with
  | zero => exact absurd HA.out (by simp [wide_Read.j0])
  | succ kj1 =>
   have H := HA.out
   clear HA
   simp only [wide_Read.j0] at H
   by_cases c8 : x22_1 = true
   ·
    subst c8
    have H1 : (some (0, 0, false)) = some (r1, r2, r3) := by rw [if_pos rfl] at H; exact H
    clear H
    have H := H1
    clear H1
    simp only [Option.some.injEq, Prod.mk.injEq] at H
    obtain ⟨rfl, rfl, rfl⟩ := H
    have hcz9_0 : wc.cell? ⟨gb134, 0, none⟩ = some (.int .u64 0) := (blk_cell BK134.out 0).trans rfl
    have hcz9_1 : wc.cell? ⟨gb134, 1, none⟩ = some (.int .u64 0) := (blk_cell BK134.out 1).trans rfl
    have hfz9_0 := blk_frozen BK134.out 0
    have hfz9_1 := blk_frozen BK134.out 1
    go_wp2
    refine bodyPost_ret (results_ct rfl _ _ gb134 24 #[.int .u64 0, .int .u64 0] (0, 0) _ rfl (by (with_reducible repeat (first | refine blk_drewN ?_ _ | refine blk_drew ?_ | refine blk_alloc ?_ _)); refine blk_put (cs := #[.int .u64 0, .int .u64 0]) ?_ 1 _ rfl; (with_reducible repeat (first | refine blk_drewN ?_ _ | refine blk_drew ?_ | refine blk_alloc ?_ _)); refine blk_put (cs := #[.int .u64 0, .int .u64 0]) ?_ 0 _ rfl; (with_reducible repeat (first | refine blk_drewN ?_ _ | refine blk_drew ?_ | refine blk_alloc ?_ _)); exact BK134.out) Try.underlying24 rfl (by kernel_rfl)) rfl ?_
    exact ⟨by first | rfl | (simp [errW_none, errW_some] <;> rfl) | (simp [*, errW_none, errW_some] <;> rfl), by repeat (first | (with_reducible first | exact HB.out | apply below_alloc | apply pw_below_drewN | apply below_drew1 | refine below_set ?_ GE134.out) | exact HB.out)⟩
   ·
    replace c8 := Bool.eq_false_iff.mpr c8
    subst c8
    have H1 : (wide_Read.l0 kj1 a0 (a0.size : Int) 0 0 0) = some (r1, r2, r3) := by rw [if_neg (show ¬ (false = true) by decide)] at H; exact H
    clear H
    have H := H1
    clear H1
    have H' := Aside0.mk H
    clear H
    go_wp2_with (first | ((with_reducible refine gate_dst (N := 4) rfl ?_); (try (refine gate_guard (by rfl) ?_; dsimp only)); refine box_event ?hg (N := 4) ?hd (cs := #[.int .u64 0, .int .u64 0]) (t := 24) ?hr ?_; (case hd => rfl); (case hg => rfl); (case hr => first | (go_simp; done) | (go_simp; rfl)); intro gb135 hg w10 hbox hb; have n0_ := Aside0.mk (blk_below (bT BK134.out) hb); have n1_ := Aside0.mk (below_step (bW HB.out) hb); have n2_ := Aside0.mk (hbox); have n3_ := Aside0.mk ((by rw [hg]; exact (below_size (bW HB.out)) : w.heap.size ≤ gb135)); have n4_ := Aside0.mk ((by rw [hg]; exact (below_size (bW HB.out)) : w.heap.size ≤ gb135)); have n5_ := Aside0.mk ((by rw [hg]; exact Nat.ne_of_lt (blk_lt (bT BK134.out)) : gb134 ≠ gb135)); have n6_ := Aside0.mk ((by rw [hg]; exact Nat.ne_of_gt (blk_lt (bT BK134.out)) : gb135 ≠ gb134)); clear BK134 HB; have BK134 := n0_; have HB := n1_; have BK135 := n2_; have GW135 := n3_; have GE135 := n4_; have NB134_135 := n5_; have NB135_134 := n6_; clear n0_ n1_ n2_ n3_ n4_ n5_ n6_ hb hbox hg))
    go_loopg [26] kj1 (fun kq v26 w' => ∃ (x26_2 : Int) (x135000_2 : Int) (x135001_2 : Int) (x136000_2 : Int) (x136001_2 : Int), v26 = .int .i64 x26_2 ∧ Aside0 (wide_Read.l0 kq a0 (a0.size : Int) x26_2 x136000_2 x136001_2 = some (r1, r2, r3)) ∧ Aside0 (kq ≤ kj1) ∧ Aside0 (w'.heap[gb134]? = some (.cells #[.int .u64 x135000_2, .int .u64 x135001_2] 24 (0, 0))) ∧ Aside0 (w'.heap[gb135]? = some (.cells #[.int .u64 x136000_2, .int .u64 x136001_2] 24 (0, 0))) ∧ Aside0 (Below w.heap.size w w'))
    case atStart => exact ⟨(0), (0), (0), (0), (0), (by first | rfl | (simp; done) | (simp [*]; done)), H', ⟨Nat.le_refl _⟩, ⟨by (with_reducible repeat (first | refine blk_drewN ?_ _ | refine blk_drew ?_ | refine blk_alloc ?_ _)); exact BK134.out⟩, ⟨by (with_reducible repeat (first | refine blk_drewN ?_ _ | refine blk_drew ?_ | refine blk_alloc ?_ _)); exact BK135.out⟩, ⟨by repeat (first | (with_reducible first | exact HB.out | apply below_alloc | apply pw_below_drewN | apply below_drew1 | refine below_set ?_ GE134.out | refine below_set ?_ GE135.out) | exact HB.out)⟩⟩
    case round =>
     clear H'
     try clear c1
     try clear p2
     try clear c4
     try clear c4b0
     try clear c4b1
     try clear c5
     try clear c5b0
     try clear c5b1
     try clear p6
     try clear q6
     try clear hx6
     try clear qi6
     try clear c7
     try clear c7b0
     try clear c7b1
     try clear c8
     try clear hcz9_0
     try clear hcz9_1
     try clear hfz9_0
     try clear hfz9_1
     try clear p2
     try clear p6
     try clear q6
     obtain ⟨x26_2, x135000_2, x135001_2, x136000_2, x136001_2, rfl, HA, HK2, BK134, BK135, HB⟩ := hrel
     cases gk with
     | zero => exact absurd HA.out (by simp [wide_Read.l0])
     | succ k2 =>
      have H := HA.out
      clear HA
      simp only [wide_Read.l0] at H
      by_cases c11 : x26_2 < (a0.size : Int)
      ·
       rw [if_pos c11] at H
       have c11b0 : decide (x26_2 < (a0.size : Int)) = true := decide_eq_true c11
       clear c11
       by_cases c12 : 0 ≤ x26_2
       ·
        rw [if_pos c12] at H
        have c12b0 : decide (0 ≤ x26_2) = true := decide_eq_true c12
        clear c12
        by_cases c13 : x26_2 < (a0.size : Int)
        ·
         rw [if_pos c13] at H
         have c13b0 : decide (x26_2 < (a0.size : Int)) = true := decide_eq_true c13
         clear c13
         by_cases c15 : (((bt a0 x26_2) - 48) % 256) ≥ 10
         ·
          rw [if_pos c15] at H
          have c15b0 : decide (10 ≤ (((bt a0 x26_2) - 48) % 256)) = true := decide_eq_true c15
          clear c15
          simp only [Option.some.injEq, Prod.mk.injEq] at H
          obtain ⟨rfl, rfl, rfl⟩ := H
          have p14 : 0 ≤ (x26_2 : Int) := of_decide_eq_true (by first | (with_reducible assumption) | assumption)
          have q14 : x26_2 < (a0.size : Int) := of_decide_eq_true (by first | (with_reducible assumption) | assumption)
          have hx14 := bt_at a0 x26_2
          replace p14 := eq_true p14
          replace q14 := eq_true q14
          have hnb16 := NB134_135.out
          have hnc16 := NB135_134.out
          have hcz17_0 : wr.cell? ⟨gb134, 0, none⟩ = some (.int .u64 x135000_2) := (blk_cell BK134.out 0).trans rfl
          have hcz17_1 : wr.cell? ⟨gb134, 1, none⟩ = some (.int .u64 x135001_2) := (blk_cell BK134.out 1).trans rfl
          have hfz17_0 := blk_frozen BK134.out 0
          have hfz17_1 := blk_frozen BK134.out 1
          go_wp2
          refine bodyPost_ret (results_ct rfl _ _ gb134 24 #[.int .u64 0, .int .u64 0] (0, 0) _ rfl (by (with_reducible repeat (first | refine blk_drewN ?_ _ | refine blk_drew ?_ | refine blk_alloc ?_ _)); refine blk_put (cs := #[.int .u64 0, .int .u64 x135001_2]) ?_ 1 _ rfl; (with_reducible repeat (first | refine blk_drewN ?_ _ | refine blk_drew ?_ | refine blk_alloc ?_ _)); refine blk_put (cs := #[.int .u64 x135000_2, .int .u64 x135001_2]) ?_ 0 _ rfl; (with_reducible repeat (first | refine blk_drewN ?_ _ | refine blk_drew ?_ | refine blk_alloc ?_ _)); exact BK134.out) Try.underlying24 rfl (by kernel_rfl)) rfl ?_
          exact ⟨by first | rfl | (simp [errW_none, errW_some] <;> rfl) | (simp [*, errW_none, errW_some] <;> rfl), by repeat (first | (with_reducible first | exact HB.out | apply below_alloc | apply pw_below_drewN | apply below_drew1 | refine below_set ?_ GE134.out | refine below_set ?_ GE135.out) | exact HB.out)⟩
         ·
          rw [if_neg c15] at H
          have c15b0 : decide (10 ≤ (((bt a0 x26_2) - 48) % 256)) = false := decide_eq_false c15
          clear c15
          replace H := Option.bind_eq_some_iff.mp H
          obtain ⟨⟨t136, t137⟩, A180, H⟩ := H
          replace H : ((wide_Mul.f x136000_2 x136001_2 t136 t137).bind fun bt138 => ((wide_Of.f (((bt a0 x26_2) - 48) % 256)).bind fun bt142 => ((wide_Add.f bt138.1 bt138.2.1 bt142.1 bt142.2).bind fun bt144 => (if bt138.2.2 = true then (if bt144.2.2 = true then (wide_Read.l0 k2 a0 (a0.size : Int) (wrap64 (x26_2 + 1)) bt144.1 bt144.2.1) else (some (0, 0, false))) else (some (0, 0, false)))))) = some (r1, r2, r3) := H
          have A18 := Aside0.mk A180
          clear A180
          replace H := Option.bind_eq_some_iff.mp H
          obtain ⟨⟨t138, t139, t140⟩, A190, H⟩ := H
          replace H : ((wide_Of.f (((bt a0 x26_2) - 48) % 256)).bind fun bt142 => ((wide_Add.f t138 t139 bt142.1 bt142.2).bind fun bt144 => (if t140 = true then (if bt144.2.2 = true then (wide_Read.l0 k2 a0 (a0.size : Int) (wrap64 (x26_2 + 1)) bt144.1 bt144.2.1) else (some (0, 0, false))) else (some (0, 0, false))))) = some (r1, r2, r3) := H
          have A19 := Aside0.mk A190
          clear A190
          replace H := Option.bind_eq_some_iff.mp H
          obtain ⟨⟨t142, t143⟩, A200, H⟩ := H
          replace H : ((wide_Add.f t138 t139 t142 t143).bind fun bt144 => (if t140 = true then (if bt144.2.2 = true then (wide_Read.l0 k2 a0 (a0.size : Int) (wrap64 (x26_2 + 1)) bt144.1 bt144.2.1) else (some (0, 0, false))) else (some (0, 0, false)))) = some (r1, r2, r3) := H
          have A20 := Aside0.mk A200
          clear A200
          replace H := Option.bind_eq_some_iff.mp H
          obtain ⟨⟨t144, t145, t146⟩, A210, H⟩ := H
          replace H : (if t140 = true then (if t146 = true then (wide_Read.l0 k2 a0 (a0.size : Int) (wrap64 (x26_2 + 1)) t144 t145) else (some (0, 0, false))) else (some (0, 0, false))) = some (r1, r2, r3) := H
          have A21 := Aside0.mk A210
          clear A210
          by_cases c22 : t140 = true
          ·
           subst c22
           have H1 : (if t146 = true then (wide_Read.l0 k2 a0 (a0.size : Int) (wrap64 (x26_2 + 1)) t144 t145) else (some (0, 0, false))) = some (r1, r2, r3) := by rw [if_pos rfl] at H; exact H
           clear H
           have H := H1
           clear H1
           by_cases c23 : t146 = true
           ·
            subst c23
            have H1 : (wide_Read.l0 k2 a0 (a0.size : Int) (wrap64 (x26_2 + 1)) t144 t145) = some (r1, r2, r3) := by rw [if_pos rfl] at H; exact H
            clear H
            have H := H1
            clear H1
            have H' := Aside0.mk H
            clear H
            have p14 : 0 ≤ (x26_2 : Int) := of_decide_eq_true (by first | (with_reducible assumption) | assumption)
            have q14 : x26_2 < (a0.size : Int) := of_decide_eq_true (by first | (with_reducible assumption) | assumption)
            have hx14 := bt_at a0 x26_2
            replace p14 := eq_true p14
            replace q14 := eq_true q14
            try go_wp2
            have n0_ := Aside0.mk (blk_drew BK134.out)
            have n1_ := Aside0.mk (blk_drew BK135.out)
            have n2_ := Aside0.mk (below_drew1 HB.out)
            clear BK134 BK135 HB
            have BK134 := n0_
            have BK135 := n1_
            have HB := n2_
            clear n0_ n1_ n2_
            refine start_ (n := 9) (S := fun w' => w'.cell? ⟨gb135, 0, none⟩ = some (.int .u64 x136000_2) ∧ w'.cell? ⟨gb135, 1, none⟩ = some (.int .u64 x136001_2)) (ds := []) #[false, false, false, false, false, false, false, false, false] (by kernel_rfl) rfl rfl ⟨(blk_cell BK135.out 0).trans rfl, (blk_cell BK135.out 1).trans rfl⟩ (fun hHeld => ?_); refine with_tabW wide_Read.tab10 wide_Read.bits10 (fun HT_ HW_ => ?_)
            generalize wr.drew = w24 at BK134 BK135 HB hHeld ⊢
            refine take_ (i := 0) (N := some 37) (v := ?_) (a' := ?_) #[true, false, false, false, false, false, false, false, false] rfl rfl (take_ofW HT_.out HW_.out (by kernel_rfl)) (fun _ _ _ h => h) (Or.inl ⟨by rfl, ?_⟩) hHeld ?_ ?_
            rotate_left
            ·
             rintro w' ⟨s0, s1⟩
             go_simp
             with_reducible rfl
            rotate_left
            ·
             simp only [Act.put, List.setIfInBounds_toArray, List.set_cons_zero, List.set_cons_succ, i64_w, i32_w]
             rfl
            refine join_ (σ := Nat) 2 #[true, true, true, true, true, true, true, false, false] (fun s_ => [(38, .agg #[.int .u64 t136, .int .u64 t137]), (39, .tuple #[.agg #[.int .u64 t138, .int .u64 t139], .bool true]), (7, .pointer (some ⟨s_, 0, none⟩)), (36, .tuple #[.agg #[.int .u64 t138, .int .u64 t139], .bool true]), (40, .agg #[.int .u64 t138, .int .u64 t139]), (41, .bool true)]) (fun s_ w' => (w'.cell? ⟨gb135, 0, none⟩ = some (.int .u64 x136000_2) ∧ w'.cell? ⟨gb135, 1, none⟩ = some (.int .u64 x136001_2)) ∧ (w'.heap[gb134]? = some (.cells #[.int .u64 x135000_2, .int .u64 x135001_2] 24 (0, 0))) ∧ (w'.heap[gb135]? = some (.cells #[.int .u64 x136000_2, .int .u64 x136001_2] 24 (0, 0))) ∧ (w'.heap[s_]? = some (.cells #[.int .u64 0, .int .u64 0] 24 (0, 0))) ∧ (w.heap.size ≤ s_) ∧ (w.heap.size ≤ s_) ∧ (gb134 ≠ s_) ∧ (s_ ≠ gb134) ∧ (gb135 ≠ s_) ∧ (s_ ≠ gb135) ∧ (Below w.heap.size w w')) ?_ ?_
            rotate_left
            ·
             intro hCont
             refine two_ (i := 1) (j := 6) (Ni := some 38) (Nj := some 7) #[true, true, false, false, false, false, false, false, false] #[true, false, false, false, false, false, true, false, false] rfl rfl rfl rfl (two_of HT_.out (by kernel_rfl)) (by decide) (by decide) (fun K hK => ?_) (fun K hK => ?_)
             ·
              skip
              refine goes_ Try.func18 (by kernel_rfl) rfl #[.int .u64 10] (by rfl) rfl rfl (by (try simp only [List.map_toArray, List.map_cons, List.map_nil]); first | done | rfl | (simp only [List.length_drop, List.length_take]; rfl)) ?_
              with_reducible refine (wide_Of.calls 10 t136 t137 _ A18.out).mono ?_
              rintro e w25 ⟨rfl, hb⟩
              refine ⟨_, rfl, ?_⟩
              have n0_ := Aside0.mk (blk_below (bT BK134.out) hb)
              have n1_ := Aside0.mk (blk_below (bT BK135.out) hb)
              have n2_ := Aside0.mk (below_step (bW HB.out) hb)
              clear BK134 BK135 HB
              have BK134 := n0_
              have BK135 := n1_
              have HB := n2_
              clear n0_ n1_ n2_
              (try clear hb)
              (try clear hb2)
              (try clear hk)
              (try clear hi)
              refine hK.out _ _ ⟨(blk_cell BK135.out 0).trans rfl, (blk_cell BK135.out 1).trans rfl⟩ (fun hHeld => ?_)
              clear hK K
              refine norm_ (a' := ?_) ?_ ?_
              rotate_left
              ·
               show Act.put _ (some 38) _ = _
               simp only [Act.put, List.setIfInBounds_toArray, List.set_cons_zero, List.set_cons_succ, i64_w, i32_w]
               rfl
              refine two_ (i := 2) (j := 6) (Ni := some 39) (Nj := some 7) #[true, true, true, false, false, false, false, false, false] #[true, true, false, false, false, false, true, false, false] rfl rfl rfl rfl (two_of HT_.out (by kernel_rfl)) (by decide) (by decide) (fun K hK => ?_) (fun K hK => ?_)
              ·
               skip
               refine goes_ Try.func17 (by kernel_rfl) rfl #[.agg #[.int .u64 x136000_2, .int .u64 x136001_2], .agg #[.int .u64 t136, .int .u64 t137]] (by rfl) rfl rfl (by (try simp only [List.map_toArray, List.map_cons, List.map_nil]); first | done | rfl | (simp only [List.length_drop, List.length_take]; rfl)) ?_
               with_reducible refine (wide_Mul.calls x136000_2 x136001_2 t136 t137 t138 t139 true _ A19.out).mono ?_
               rintro e w26 ⟨rfl, hb⟩
               refine ⟨_, rfl, ?_⟩
               have n0_ := Aside0.mk (blk_below (bT BK134.out) hb)
               have n1_ := Aside0.mk (blk_below (bT BK135.out) hb)
               have n2_ := Aside0.mk (below_step (bW HB.out) hb)
               clear BK134 BK135 HB
               have BK134 := n0_
               have BK135 := n1_
               have HB := n2_
               clear n0_ n1_ n2_
               (try clear hb)
               (try clear hb2)
               (try clear hk)
               (try clear hi)
               refine hK.out _ _ ⟨(blk_cell BK135.out 0).trans rfl, (blk_cell BK135.out 1).trans rfl⟩ (fun hHeld => ?_)
               clear hK K
               refine norm_ (a' := ?_) ?_ ?_
               rotate_left
               ·
                show Act.put _ (some 39) _ = _
                simp only [Act.put, List.setIfInBounds_toArray, List.set_cons_zero, List.set_cons_succ, i64_w, i32_w]
                rfl
               refine pure_ (i := 3) (N := some 36) (v := ?_) (a' := ?_) #[true, true, true, true, false, false, false, false, false] rfl rfl (any_of HT_.out (by kernel_rfl)) (fun _ _ _ h => h) (Or.inl ⟨by rfl, ?_⟩) ?_ ?_
               rotate_left
               ·
                intro w'
                go_simp
                with_reducible rfl
               rotate_left
               ·
                simp only [Act.put, List.setIfInBounds_toArray, List.set_cons_zero, List.set_cons_succ, i64_w, i32_w]
                rfl
               refine pure_ (i := 4) (N := some 40) (v := ?_) (a' := ?_) #[true, true, true, true, true, false, false, false, false] rfl rfl (any_of HT_.out (by kernel_rfl)) (fun _ _ _ h => h) (Or.inl ⟨by rfl, ?_⟩) ?_ ?_
               rotate_left
               ·
                intro w'
                go_simp
                with_reducible rfl
               rotate_left
               ·
                simp only [Act.put, List.setIfInBounds_toArray, List.set_cons_zero, List.set_cons_succ, i64_w, i32_w]
                rfl
               refine pure_ (i := 5) (N := some 41) (v := ?_) (a' := ?_) #[true, true, true, true, true, true, false, false, false] rfl rfl (any_of HT_.out (by kernel_rfl)) (fun _ _ _ h => h) (Or.inl ⟨by rfl, ?_⟩) ?_ ?_
               rotate_left
               ·
                intro w'
                go_simp
                with_reducible rfl
               rotate_left
               ·
                simp only [Act.put, List.setIfInBounds_toArray, List.set_cons_zero, List.set_cons_succ, i64_w, i32_w]
                rfl
               refine one_ (i := 6) (N := some 7) #[true, true, true, true, true, true, true, false, false] rfl rfl (one_of HT_.out (by kernel_rfl)) (by decide) (fun K hK => ?_)
               refine box_step ?hg (N := 7) ?hd (cs := #[.int .u64 0, .int .u64 0]) (t := 24) ?hr ?_; (case hd => rfl); (case hg => rfl); (case hr => first | (go_simp; done) | (go_simp; rfl))
               intro gb141 hg w27 hbox hb
               have n0_ := Aside0.mk (blk_below (bT BK134.out) hb)
               have n1_ := Aside0.mk (blk_below (bT BK135.out) hb)
               have n2_ := Aside0.mk (below_step (bW HB.out) hb)
               have n3_ := Aside0.mk (hbox)
               have n4_ := Aside0.mk ((by rw [hg]; exact (below_size (bW HB.out)) : w.heap.size ≤ gb141))
               have n5_ := Aside0.mk ((by rw [hg]; exact (below_size (bW HB.out)) : w.heap.size ≤ gb141))
               have n6_ := Aside0.mk ((by rw [hg]; exact Nat.ne_of_lt (blk_lt (bT BK134.out)) : gb134 ≠ gb141))
               have n7_ := Aside0.mk ((by rw [hg]; exact Nat.ne_of_gt (blk_lt (bT BK134.out)) : gb141 ≠ gb134))
               have n8_ := Aside0.mk ((by rw [hg]; exact Nat.ne_of_lt (blk_lt (bT BK135.out)) : gb135 ≠ gb141))
               have n9_ := Aside0.mk ((by rw [hg]; exact Nat.ne_of_gt (blk_lt (bT BK135.out)) : gb141 ≠ gb135))
               clear BK134 BK135 HB
               have BK134 := n0_
               have BK135 := n1_
               have HB := n2_
               have BK141 := n3_
               have GW141 := n4_
               have GE141 := n5_
               have NB134_141 := n6_
               have NB141_134 := n7_
               have NB135_141 := n8_
               have NB141_135 := n9_
               clear n0_ n1_ n2_ n3_ n4_ n5_ n6_ n7_ n8_ n9_ hb hbox hg
               refine hK.out _ _ ⟨(blk_cell BK135.out 0).trans rfl, (blk_cell BK135.out 1).trans rfl⟩ (fun hHeld => ?_)
               clear hK K
               refine norm_ (a' := ?_) ?_ ?_
               rotate_left
               ·
                show Act.put _ (some 7) _ = _
                simp only [Act.put, List.setIfInBounds_toArray, List.set_cons_zero, List.set_cons_succ, i64_w, i32_w]
                rfl
               exact norm_ (by simp only [putAll, Act.put, List.setIfInBounds_toArray, List.set_cons_zero, List.set_cons_succ]) (hCont (gb141) _ ⟨hHeld, (bT BK134.out), (bT BK135.out), (bT BK141.out), GW141.out, GE141.out, NB134_141.out, NB141_134.out, NB135_141.out, NB141_135.out, (bW HB.out)⟩)
              ·
               skip
               refine box_step ?hg (N := 7) ?hd (cs := #[.int .u64 0, .int .u64 0]) (t := 24) ?hr ?_; (case hd => rfl); (case hg => rfl); (case hr => first | (go_simp; done) | (go_simp; rfl))
               intro gb141 hg w26 hbox hb
               have n0_ := Aside0.mk (blk_below (bT BK134.out) hb)
               have n1_ := Aside0.mk (blk_below (bT BK135.out) hb)
               have n2_ := Aside0.mk (below_step (bW HB.out) hb)
               have n3_ := Aside0.mk (hbox)
               have n4_ := Aside0.mk ((by rw [hg]; exact (below_size (bW HB.out)) : w.heap.size ≤ gb141))
               have n5_ := Aside0.mk ((by rw [hg]; exact (below_size (bW HB.out)) : w.heap.size ≤ gb141))
               have n6_ := Aside0.mk ((by rw [hg]; exact Nat.ne_of_lt (blk_lt (bT BK134.out)) : gb134 ≠ gb141))
               have n7_ := Aside0.mk ((by rw [hg]; exact Nat.ne_of_gt (blk_lt (bT BK134.out)) : gb141 ≠ gb134))
               have n8_ := Aside0.mk ((by rw [hg]; exact Nat.ne_of_lt (blk_lt (bT BK135.out)) : gb135 ≠ gb141))
               have n9_ := Aside0.mk ((by rw [hg]; exact Nat.ne_of_gt (blk_lt (bT BK135.out)) : gb141 ≠ gb135))
               clear BK134 BK135 HB
               have BK134 := n0_
               have BK135 := n1_
               have HB := n2_
               have BK141 := n3_
               have GW141 := n4_
               have GE141 := n5_
               have NB134_141 := n6_
               have NB141_134 := n7_
               have NB135_141 := n8_
               have NB141_135 := n9_
               clear n0_ n1_ n2_ n3_ n4_ n5_ n6_ n7_ n8_ n9_ hb hbox hg
               refine hK.out _ _ ⟨(blk_cell BK135.out 0).trans rfl, (blk_cell BK135.out 1).trans rfl⟩ (fun hHeld => ?_)
               clear hK K
               refine norm_ (a' := ?_) ?_ ?_
               rotate_left
               ·
                show Act.put _ (some 7) _ = _
                simp only [Act.put, List.setIfInBounds_toArray, List.set_cons_zero, List.set_cons_succ, i64_w, i32_w]
                rfl
               refine one_ (i := 2) (N := some 39) #[true, true, true, false, false, false, true, false, false] rfl rfl (one_of HT_.out (by kernel_rfl)) (by decide) (fun K hK => ?_)
               refine goes_ Try.func17 (by kernel_rfl) rfl #[.agg #[.int .u64 x136000_2, .int .u64 x136001_2], .agg #[.int .u64 t136, .int .u64 t137]] (by rfl) rfl rfl (by (try simp only [List.map_toArray, List.map_cons, List.map_nil]); first | done | rfl | (simp only [List.length_drop, List.length_take]; rfl)) ?_
               with_reducible refine (wide_Mul.calls x136000_2 x136001_2 t136 t137 t138 t139 true _ A19.out).mono ?_
               rintro e w27 ⟨rfl, hb⟩
               refine ⟨_, rfl, ?_⟩
               have n0_ := Aside0.mk (blk_below (bT BK134.out) hb)
               have n1_ := Aside0.mk (blk_below (bT BK135.out) hb)
               have n2_ := Aside0.mk (blk_below (bT BK141.out) hb)
               have n3_ := Aside0.mk (below_step (bW HB.out) hb)
               clear BK134 BK135 BK141 HB
               have BK134 := n0_
               have BK135 := n1_
               have BK141 := n2_
               have HB := n3_
               clear n0_ n1_ n2_ n3_
               (try clear hb)
               (try clear hb2)
               (try clear hk)
               (try clear hi)
               refine hK.out _ _ ⟨(blk_cell BK135.out 0).trans rfl, (blk_cell BK135.out 1).trans rfl⟩ (fun hHeld => ?_)
               clear hK K
               refine norm_ (a' := ?_) ?_ ?_
               rotate_left
               ·
                show Act.put _ (some 39) _ = _
                simp only [Act.put, List.setIfInBounds_toArray, List.set_cons_zero, List.set_cons_succ, i64_w, i32_w]
                rfl
               refine pure_ (i := 3) (N := some 36) (v := ?_) (a' := ?_) #[true, true, true, true, false, false, true, false, false] rfl rfl (any_of HT_.out (by kernel_rfl)) (fun _ _ _ h => h) (Or.inl ⟨by rfl, ?_⟩) ?_ ?_
               rotate_left
               ·
                intro w'
                go_simp
                with_reducible rfl
               rotate_left
               ·
                simp only [Act.put, List.setIfInBounds_toArray, List.set_cons_zero, List.set_cons_succ, i64_w, i32_w]
                rfl
               refine pure_ (i := 4) (N := some 40) (v := ?_) (a' := ?_) #[true, true, true, true, true, false, true, false, false] rfl rfl (any_of HT_.out (by kernel_rfl)) (fun _ _ _ h => h) (Or.inl ⟨by rfl, ?_⟩) ?_ ?_
               rotate_left
               ·
                intro w'
                go_simp
                with_reducible rfl
               rotate_left
               ·
                simp only [Act.put, List.setIfInBounds_toArray, List.set_cons_zero, List.set_cons_succ, i64_w, i32_w]
                rfl
               refine pure_ (i := 5) (N := some 41) (v := ?_) (a' := ?_) #[true, true, true, true, true, true, true, false, false] rfl rfl (any_of HT_.out (by kernel_rfl)) (fun _ _ _ h => h) (Or.inl ⟨by rfl, ?_⟩) ?_ ?_
               rotate_left
               ·
                intro w'
                go_simp
                with_reducible rfl
               rotate_left
               ·
                simp only [Act.put, List.setIfInBounds_toArray, List.set_cons_zero, List.set_cons_succ, i64_w, i32_w]
                rfl
               exact norm_ (by simp only [putAll, Act.put, List.setIfInBounds_toArray, List.set_cons_zero, List.set_cons_succ]) (hCont (gb141) _ ⟨hHeld, (bT BK134.out), (bT BK135.out), (bT BK141.out), GW141.out, GE141.out, NB134_141.out, NB141_134.out, NB135_141.out, NB141_135.out, (bW HB.out)⟩)
             ·
              skip
              refine box_step ?hg (N := 7) ?hd (cs := #[.int .u64 0, .int .u64 0]) (t := 24) ?hr ?_; (case hd => rfl); (case hg => rfl); (case hr => first | (go_simp; done) | (go_simp; rfl))
              intro gb141 hg w25 hbox hb
              have n0_ := Aside0.mk (blk_below (bT BK134.out) hb)
              have n1_ := Aside0.mk (blk_below (bT BK135.out) hb)
              have n2_ := Aside0.mk (below_step (bW HB.out) hb)
              have n3_ := Aside0.mk (hbox)
              have n4_ := Aside0.mk ((by rw [hg]; exact (below_size (bW HB.out)) : w.heap.size ≤ gb141))
              have n5_ := Aside0.mk ((by rw [hg]; exact (below_size (bW HB.out)) : w.heap.size ≤ gb141))
              have n6_ := Aside0.mk ((by rw [hg]; exact Nat.ne_of_lt (blk_lt (bT BK134.out)) : gb134 ≠ gb141))
              have n7_ := Aside0.mk ((by rw [hg]; exact Nat.ne_of_gt (blk_lt (bT BK134.out)) : gb141 ≠ gb134))
              have n8_ := Aside0.mk ((by rw [hg]; exact Nat.ne_of_lt (blk_lt (bT BK135.out)) : gb135 ≠ gb141))
              have n9_ := Aside0.mk ((by rw [hg]; exact Nat.ne_of_gt (blk_lt (bT BK135.out)) : gb141 ≠ gb135))
              clear BK134 BK135 HB
              have BK134 := n0_
              have BK135 := n1_
              have HB := n2_
              have BK141 := n3_
              have GW141 := n4_
              have GE141 := n5_
              have NB134_141 := n6_
              have NB141_134 := n7_
              have NB135_141 := n8_
              have NB141_135 := n9_
              clear n0_ n1_ n2_ n3_ n4_ n5_ n6_ n7_ n8_ n9_ hb hbox hg
              refine hK.out _ _ ⟨(blk_cell BK135.out 0).trans rfl, (blk_cell BK135.out 1).trans rfl⟩ (fun hHeld => ?_)
              clear hK K
              refine norm_ (a' := ?_) ?_ ?_
              rotate_left
              ·
               show Act.put _ (some 7) _ = _
               simp only [Act.put, List.setIfInBounds_toArray, List.set_cons_zero, List.set_cons_succ, i64_w, i32_w]
               rfl
              refine one_ (i := 1) (N := some 38) #[true, true, false, false, false, false, true, false, false] rfl rfl (one_of HT_.out (by kernel_rfl)) (by decide) (fun K hK => ?_)
              refine goes_ Try.func18 (by kernel_rfl) rfl #[.int .u64 10] (by rfl) rfl rfl (by (try simp only [List.map_toArray, List.map_cons, List.map_nil]); first | done | rfl | (simp only [List.length_drop, List.length_take]; rfl)) ?_
              with_reducible refine (wide_Of.calls 10 t136 t137 _ A18.out).mono ?_
              rintro e w26 ⟨rfl, hb⟩
              refine ⟨_, rfl, ?_⟩
              have n0_ := Aside0.mk (blk_below (bT BK134.out) hb)
              have n1_ := Aside0.mk (blk_below (bT BK135.out) hb)
              have n2_ := Aside0.mk (blk_below (bT BK141.out) hb)
              have n3_ := Aside0.mk (below_step (bW HB.out) hb)
              clear BK134 BK135 BK141 HB
              have BK134 := n0_
              have BK135 := n1_
              have BK141 := n2_
              have HB := n3_
              clear n0_ n1_ n2_ n3_
              (try clear hb)
              (try clear hb2)
              (try clear hk)
              (try clear hi)
              refine hK.out _ _ ⟨(blk_cell BK135.out 0).trans rfl, (blk_cell BK135.out 1).trans rfl⟩ (fun hHeld => ?_)
              clear hK K
              refine norm_ (a' := ?_) ?_ ?_
              rotate_left
              ·
               show Act.put _ (some 38) _ = _
               simp only [Act.put, List.setIfInBounds_toArray, List.set_cons_zero, List.set_cons_succ, i64_w, i32_w]
               rfl
              refine one_ (i := 2) (N := some 39) #[true, true, true, false, false, false, true, false, false] rfl rfl (one_of HT_.out (by kernel_rfl)) (by decide) (fun K hK => ?_)
              refine goes_ Try.func17 (by kernel_rfl) rfl #[.agg #[.int .u64 x136000_2, .int .u64 x136001_2], .agg #[.int .u64 t136, .int .u64 t137]] (by rfl) rfl rfl (by (try simp only [List.map_toArray, List.map_cons, List.map_nil]); first | done | rfl | (simp only [List.length_drop, List.length_take]; rfl)) ?_
              with_reducible refine (wide_Mul.calls x136000_2 x136001_2 t136 t137 t138 t139 true _ A19.out).mono ?_
              rintro e w27 ⟨rfl, hb⟩
              refine ⟨_, rfl, ?_⟩
              have n0_ := Aside0.mk (blk_below (bT BK134.out) hb)
              have n1_ := Aside0.mk (blk_below (bT BK135.out) hb)
              have n2_ := Aside0.mk (blk_below (bT BK141.out) hb)
              have n3_ := Aside0.mk (below_step (bW HB.out) hb)
              clear BK134 BK135 BK141 HB
              have BK134 := n0_
              have BK135 := n1_
              have BK141 := n2_
              have HB := n3_
              clear n0_ n1_ n2_ n3_
              (try clear hb)
              (try clear hb2)
              (try clear hk)
              (try clear hi)
              refine hK.out _ _ ⟨(blk_cell BK135.out 0).trans rfl, (blk_cell BK135.out 1).trans rfl⟩ (fun hHeld => ?_)
              clear hK K
              refine norm_ (a' := ?_) ?_ ?_
              rotate_left
              ·
               show Act.put _ (some 39) _ = _
               simp only [Act.put, List.setIfInBounds_toArray, List.set_cons_zero, List.set_cons_succ, i64_w, i32_w]
               rfl
              refine pure_ (i := 3) (N := some 36) (v := ?_) (a' := ?_) #[true, true, true, true, false, false, true, false, false] rfl rfl (any_of HT_.out (by kernel_rfl)) (fun _ _ _ h => h) (Or.inl ⟨by rfl, ?_⟩) ?_ ?_
              rotate_left
              ·
               intro w'
               go_simp
               with_reducible rfl
              rotate_left
              ·
               simp only [Act.put, List.setIfInBounds_toArray, List.set_cons_zero, List.set_cons_succ, i64_w, i32_w]
               rfl
              refine pure_ (i := 4) (N := some 40) (v := ?_) (a' := ?_) #[true, true, true, true, true, false, true, false, false] rfl rfl (any_of HT_.out (by kernel_rfl)) (fun _ _ _ h => h) (Or.inl ⟨by rfl, ?_⟩) ?_ ?_
              rotate_left
              ·
               intro w'
               go_simp
               with_reducible rfl
              rotate_left
              ·
               simp only [Act.put, List.setIfInBounds_toArray, List.set_cons_zero, List.set_cons_succ, i64_w, i32_w]
               rfl
              refine pure_ (i := 5) (N := some 41) (v := ?_) (a' := ?_) #[true, true, true, true, true, true, true, false, false] rfl rfl (any_of HT_.out (by kernel_rfl)) (fun _ _ _ h => h) (Or.inl ⟨by rfl, ?_⟩) ?_ ?_
              rotate_left
              ·
               intro w'
               go_simp
               with_reducible rfl
              rotate_left
              ·
               simp only [Act.put, List.setIfInBounds_toArray, List.set_cons_zero, List.set_cons_succ, i64_w, i32_w]
               rfl
              exact norm_ (by simp only [putAll, Act.put, List.setIfInBounds_toArray, List.set_cons_zero, List.set_cons_succ]) (hCont (gb141) _ ⟨hHeld, (bT BK134.out), (bT BK135.out), (bT BK141.out), GW141.out, GE141.out, NB134_141.out, NB141_134.out, NB135_141.out, NB141_135.out, (bW HB.out)⟩)
            rintro gb141 w28 ⟨hS_, h0_, h1_, h2_, h3_, h4_, h5_, h6_, h7_, h8_, h9_⟩
            have n0_ : Aside0 (w28.heap[gb134]? = some (.cells #[.int .u64 x135000_2, .int .u64 x135001_2] 24 (0, 0))) := ⟨h0_⟩
            have n1_ : Aside0 (w28.heap[gb135]? = some (.cells #[.int .u64 x136000_2, .int .u64 x136001_2] 24 (0, 0))) := ⟨h1_⟩
            have n2_ : Aside0 (w28.heap[gb141]? = some (.cells #[.int .u64 0, .int .u64 0] 24 (0, 0))) := ⟨h2_⟩
            have n3_ : Aside0 (w.heap.size ≤ gb141) := ⟨h3_⟩
            have n4_ : Aside0 (w.heap.size ≤ gb141) := ⟨h4_⟩
            have n5_ : Aside0 (gb134 ≠ gb141) := ⟨h5_⟩
            have n6_ : Aside0 (gb141 ≠ gb134) := ⟨h6_⟩
            have n7_ : Aside0 (gb135 ≠ gb141) := ⟨h7_⟩
            have n8_ : Aside0 (gb141 ≠ gb135) := ⟨h8_⟩
            have n9_ : Aside0 (Below w.heap.size w w28) := ⟨h9_⟩
            clear BK134 BK135 HB h0_ h1_ h2_ h3_ h4_ h5_ h6_ h7_ h8_ h9_
            have BK134 := n0_
            have BK135 := n1_
            have BK141 := n2_
            have GW141 := n3_
            have GE141 := n4_
            have NB134_141 := n5_
            have NB141_134 := n6_
            have NB135_141 := n7_
            have NB141_135 := n8_
            have HB := n9_
            clear n0_ n1_ n2_ n3_ n4_ n5_ n6_ n7_ n8_ n9_
            have hHeld : w28.cell? ⟨gb135, 0, none⟩ = some (.int .u64 x136000_2) ∧ w28.cell? ⟨gb135, 1, none⟩ = some (.int .u64 x136001_2) := hS_
            refine norm_ (a' := ?_) ?_ ?_
            rotate_left
            ·
             simp only [putAll, Act.put, List.setIfInBounds_toArray, List.set_cons_zero, List.set_cons_succ]
             rfl
            refine one_ (i := 7) (N := none) #[true, true, true, true, true, true, true, true, false] rfl rfl (one_of HT_.out (by kernel_rfl)) (by decide) (fun K hK => ?_)
            have hs29 : w28.cell? ⟨gb141, 0, none⟩ = some (.int .u64 0) := (blk_cell BK141.out 0).trans rfl
            have hfs29 := blk_frozen BK141.out 0
            have hns29_0 := NB134_141.out
            have hns29_1 := NB135_141.out
            have hms29_0 := NB141_134.out
            have hms29_1 := NB141_135.out
            have hs30 : w28.cell? ⟨gb141, 1, none⟩ = some (.int .u64 0) := (blk_cell BK141.out 1).trans rfl
            have hfs30 := blk_frozen BK141.out 1
            have hns30_0 := NB134_141.out
            have hns30_1 := NB135_141.out
            have hms30_0 := NB141_134.out
            have hms30_1 := NB141_135.out
            refine skip_ (w1 := ?_) (by rfl) rfl ?_ ?_
            rotate_left
            ·
             go_simp
             rfl
            refine hK.out _ _ ⟨((cell_far (p := ⟨gb141, _, none⟩) NB135_141.out _).trans (((cell_far (p := ⟨gb141, _, none⟩) NB135_141.out _).trans (hHeld.1)))), ((cell_far (p := ⟨gb141, _, none⟩) NB135_141.out _).trans (((cell_far (p := ⟨gb141, _, none⟩) NB135_141.out _).trans (hHeld.2))))⟩ (fun hHeld => ?_)
            clear hK K
            refine pure_ (i := 8) (N := some 8) (v := ?_) (a' := ?_) #[true, true, true, true, true, true, true, true, true] rfl rfl (any_of HT_.out (by kernel_rfl)) (fun _ _ _ h => h) (Or.inl ⟨by rfl, ?_⟩) ?_ ?_
            rotate_left
            ·
             intro w'
             go_simp
             with_reducible rfl
            rotate_left
            ·
             simp only [Act.put, List.setIfInBounds_toArray, List.set_cons_zero, List.set_cons_succ, i64_w, i32_w]
             rfl
            refine done_ (done_of HT_.out (by kernel_rfl)) ?_
            try go_wp2
            have n0_ : Aside0 (((w28.setCell ⟨gb141, 0, none⟩ (.int .u64 t138)).setCell ⟨gb141, 1, none⟩ (.int .u64 t139)).heap[gb134]? = some (.cells #[.int .u64 x135000_2, .int .u64 x135001_2] 24 (0, 0))) := ⟨by (with_reducible repeat (first | refine blk_drewN ?_ _ | refine blk_drew ?_ | refine blk_alloc ?_ _)); refine blk_far ?_ NB134_141.out _; (with_reducible repeat (first | refine blk_drewN ?_ _ | refine blk_drew ?_ | refine blk_alloc ?_ _)); refine blk_far ?_ NB134_141.out _; (with_reducible repeat (first | refine blk_drewN ?_ _ | refine blk_drew ?_ | refine blk_alloc ?_ _)); exact BK134.out⟩
            have n1_ : Aside0 (((w28.setCell ⟨gb141, 0, none⟩ (.int .u64 t138)).setCell ⟨gb141, 1, none⟩ (.int .u64 t139)).heap[gb135]? = some (.cells #[.int .u64 x136000_2, .int .u64 x136001_2] 24 (0, 0))) := ⟨by (with_reducible repeat (first | refine blk_drewN ?_ _ | refine blk_drew ?_ | refine blk_alloc ?_ _)); refine blk_far ?_ NB135_141.out _; (with_reducible repeat (first | refine blk_drewN ?_ _ | refine blk_drew ?_ | refine blk_alloc ?_ _)); refine blk_far ?_ NB135_141.out _; (with_reducible repeat (first | refine blk_drewN ?_ _ | refine blk_drew ?_ | refine blk_alloc ?_ _)); exact BK135.out⟩
            have n2_ : Aside0 (((w28.setCell ⟨gb141, 0, none⟩ (.int .u64 t138)).setCell ⟨gb141, 1, none⟩ (.int .u64 t139)).heap[gb141]? = some (.cells #[.int .u64 t138, .int .u64 t139] 24 (0, 0))) := ⟨by (with_reducible repeat (first | refine blk_drewN ?_ _ | refine blk_drew ?_ | refine blk_alloc ?_ _)); refine blk_put (cs := #[.int .u64 t138, .int .u64 0]) ?_ 1 _ rfl; (with_reducible repeat (first | refine blk_drewN ?_ _ | refine blk_drew ?_ | refine blk_alloc ?_ _)); refine blk_put (cs := #[.int .u64 0, .int .u64 0]) ?_ 0 _ rfl; (with_reducible repeat (first | refine blk_drewN ?_ _ | refine blk_drew ?_ | refine blk_alloc ?_ _)); exact BK141.out⟩
            have n3_ : Aside0 (Below w.heap.size w ((w28.setCell ⟨gb141, 0, none⟩ (.int .u64 t138)).setCell ⟨gb141, 1, none⟩ (.int .u64 t139))) := ⟨by repeat (first | (with_reducible first | exact HB.out | apply below_alloc | apply pw_below_drewN | apply below_drew1 | refine below_set ?_ GE134.out | refine below_set ?_ GE135.out | refine below_set ?_ GE141.out) | exact HB.out)⟩
            (try clear BK134)
            (try clear BK135)
            (try clear BK141)
            (try clear HB)
            generalize ((w28.setCell ⟨gb141, 0, none⟩ (.int .u64 t138)).setCell ⟨gb141, 1, none⟩ (.int .u64 t139)) = w31 at n0_ n1_ n2_ n3_ ⊢
            have BK134 := n0_
            have BK135 := n1_
            have BK141 := n2_
            have HB := n3_
            clear n0_ n1_ n2_ n3_
            have n0_ := Aside0.mk (blk_drew BK134.out)
            have n1_ := Aside0.mk (blk_drew BK135.out)
            have n2_ := Aside0.mk (blk_drew BK141.out)
            have n3_ := Aside0.mk (below_drew1 HB.out)
            clear BK134 BK135 BK141 HB
            have BK134 := n0_
            have BK135 := n1_
            have BK141 := n2_
            have HB := n3_
            clear n0_ n1_ n2_ n3_
            refine start_ (n := 11) (S := fun w' => w'.cell? ⟨gb141, 0, none⟩ = some (.int .u64 t138) ∧ w'.cell? ⟨gb141, 1, none⟩ = some (.int .u64 t139)) (ds := []) #[false, false, false, false, false, false, false, false, false, false, false] (by kernel_rfl) rfl rfl ⟨(blk_cell BK141.out 0).trans rfl, (blk_cell BK141.out 1).trans rfl⟩ (fun hHeld => ?_); refine with_tabW wide_Read.tab11 wide_Read.bits11 (fun HT_ HW_ => ?_)
            generalize w31.drew = w32 at BK134 BK135 BK141 HB hHeld ⊢
            refine pure_ (i := 1) (N := some 44) (v := ?_) (a' := ?_) #[false, true, false, false, false, false, false, false, false, false, false] rfl rfl (any_of HT_.out (by kernel_rfl)) (fun _ _ _ h => h) (Or.inl ⟨by rfl, ?_⟩) ?_ ?_
            rotate_left
            ·
             intro w'
             go_simp
             with_reducible rfl
            rotate_left
            ·
             simp only [Act.put, List.setIfInBounds_toArray, List.set_cons_zero, List.set_cons_succ, i64_w, i32_w]
             rfl
            refine pure_ (i := 2) (N := some 45) (v := ?_) (a' := ?_) #[false, true, true, false, false, false, false, false, false, false, false] rfl rfl (any_of HT_.out (by kernel_rfl)) (fun _ _ _ h => h) (Or.inl ⟨by rfl, ?_⟩) ?_ ?_
            rotate_left
            ·
             intro w'
             go_simp
             with_reducible rfl
            rotate_left
            ·
             simp only [Act.put, List.setIfInBounds_toArray, List.set_cons_zero, List.set_cons_succ, i64_w, i32_w]
             rfl
            refine take_ (i := 0) (N := some 43) (v := ?_) (a' := ?_) #[true, true, true, false, false, false, false, false, false, false, false] rfl rfl (take_ofW HT_.out HW_.out (by kernel_rfl)) (fun _ _ _ h => h) (Or.inl ⟨by rfl, ?_⟩) hHeld ?_ ?_
            rotate_left
            ·
             rintro w' ⟨s0, s1⟩
             go_simp
             with_reducible rfl
            rotate_left
            ·
             simp only [Act.put, List.setIfInBounds_toArray, List.set_cons_zero, List.set_cons_succ, i64_w, i32_w]
             rfl
            refine join_ (σ := Nat) 2 #[true, true, true, true, true, true, true, true, true, false, false] (fun s_ => [(46, .agg #[.int .u64 t142, .int .u64 t143]), (47, .tuple #[.agg #[.int .u64 t144, .int .u64 t145], .bool true]), (9, .pointer (some ⟨s_, 0, none⟩)), (42, .tuple #[.agg #[.int .u64 t144, .int .u64 t145], .bool true]), (48, .agg #[.int .u64 t144, .int .u64 t145]), (49, .bool true)]) (fun s_ w' => (w'.cell? ⟨gb141, 0, none⟩ = some (.int .u64 t138) ∧ w'.cell? ⟨gb141, 1, none⟩ = some (.int .u64 t139)) ∧ (w'.heap[gb134]? = some (.cells #[.int .u64 x135000_2, .int .u64 x135001_2] 24 (0, 0))) ∧ (w'.heap[gb135]? = some (.cells #[.int .u64 x136000_2, .int .u64 x136001_2] 24 (0, 0))) ∧ (w'.heap[gb141]? = some (.cells #[.int .u64 t138, .int .u64 t139] 24 (0, 0))) ∧ (w'.heap[s_]? = some (.cells #[.int .u64 0, .int .u64 0] 24 (0, 0))) ∧ (w.heap.size ≤ s_) ∧ (w.heap.size ≤ s_) ∧ (gb134 ≠ s_) ∧ (s_ ≠ gb134) ∧ (gb135 ≠ s_) ∧ (s_ ≠ gb135) ∧ (gb141 ≠ s_) ∧ (s_ ≠ gb141) ∧ (Below w.heap.size w w')) ?_ ?_
            rotate_left
            ·
             intro hCont
             refine two_ (i := 3) (j := 8) (Ni := some 46) (Nj := some 9) #[true, true, true, true, false, false, false, false, false, false, false] #[true, true, true, false, false, false, false, false, true, false, false] rfl rfl rfl rfl (two_of HT_.out (by kernel_rfl)) (by decide) (by decide) (fun K hK => ?_) (fun K hK => ?_)
             ·
              skip
              refine goes_ Try.func18 (by kernel_rfl) rfl #[.int .u64 (((bt a0 x26_2) - 48) % 256)] (by rfl) rfl rfl (by (try simp only [List.map_toArray, List.map_cons, List.map_nil]); first | done | rfl | (simp [Act.eval]; rw [D.wrapE]; omega)) ?_
              with_reducible refine (wide_Of.calls (((bt a0 x26_2) - 48) % 256) t142 t143 _ A20.out).mono ?_
              rintro e w33 ⟨rfl, hb⟩
              refine ⟨_, rfl, ?_⟩
              have n0_ := Aside0.mk (blk_below (bT BK134.out) hb)
              have n1_ := Aside0.mk (blk_below (bT BK135.out) hb)
              have n2_ := Aside0.mk (blk_below (bT BK141.out) hb)
              have n3_ := Aside0.mk (below_step (bW HB.out) hb)
              clear BK134 BK135 BK141 HB
              have BK134 := n0_
              have BK135 := n1_
              have BK141 := n2_
              have HB := n3_
              clear n0_ n1_ n2_ n3_
              (try clear hb)
              (try clear hb2)
              (try clear hk)
              (try clear hi)
              refine hK.out _ _ ⟨(blk_cell BK141.out 0).trans rfl, (blk_cell BK141.out 1).trans rfl⟩ (fun hHeld => ?_)
              clear hK K
              refine norm_ (a' := ?_) ?_ ?_
              rotate_left
              ·
               show Act.put _ (some 46) _ = _
               simp only [Act.put, List.setIfInBounds_toArray, List.set_cons_zero, List.set_cons_succ, i64_w, i32_w]
               rfl
              refine two_ (i := 4) (j := 8) (Ni := some 47) (Nj := some 9) #[true, true, true, true, true, false, false, false, false, false, false] #[true, true, true, true, false, false, false, false, true, false, false] rfl rfl rfl rfl (two_of HT_.out (by kernel_rfl)) (by decide) (by decide) (fun K hK => ?_) (fun K hK => ?_)
              ·
               skip
               refine goes_ Try.func16 (by kernel_rfl) rfl #[.agg #[.int .u64 t138, .int .u64 t139], .agg #[.int .u64 t142, .int .u64 t143]] (by rfl) rfl rfl (by (try simp only [List.map_toArray, List.map_cons, List.map_nil]); first | done | rfl | (simp only [List.length_drop, List.length_take]; rfl)) ?_
               with_reducible refine (wide_Add.calls t138 t139 t142 t143 t144 t145 true _ A21.out).mono ?_
               rintro e w34 ⟨rfl, hb⟩
               refine ⟨_, rfl, ?_⟩
               have n0_ := Aside0.mk (blk_below (bT BK134.out) hb)
               have n1_ := Aside0.mk (blk_below (bT BK135.out) hb)
               have n2_ := Aside0.mk (blk_below (bT BK141.out) hb)
               have n3_ := Aside0.mk (below_step (bW HB.out) hb)
               clear BK134 BK135 BK141 HB
               have BK134 := n0_
               have BK135 := n1_
               have BK141 := n2_
               have HB := n3_
               clear n0_ n1_ n2_ n3_
               (try clear hb)
               (try clear hb2)
               (try clear hk)
               (try clear hi)
               refine hK.out _ _ ⟨(blk_cell BK141.out 0).trans rfl, (blk_cell BK141.out 1).trans rfl⟩ (fun hHeld => ?_)
               clear hK K
               refine norm_ (a' := ?_) ?_ ?_
               rotate_left
               ·
                show Act.put _ (some 47) _ = _
                simp only [Act.put, List.setIfInBounds_toArray, List.set_cons_zero, List.set_cons_succ, i64_w, i32_w]
                rfl
               refine pure_ (i := 5) (N := some 42) (v := ?_) (a' := ?_) #[true, true, true, true, true, true, false, false, false, false, false] rfl rfl (any_of HT_.out (by kernel_rfl)) (fun _ _ _ h => h) (Or.inl ⟨by rfl, ?_⟩) ?_ ?_
               rotate_left
               ·
                intro w'
                go_simp
                with_reducible rfl
               rotate_left
               ·
                simp only [Act.put, List.setIfInBounds_toArray, List.set_cons_zero, List.set_cons_succ, i64_w, i32_w]
                rfl
               refine pure_ (i := 6) (N := some 48) (v := ?_) (a' := ?_) #[true, true, true, true, true, true, true, false, false, false, false] rfl rfl (any_of HT_.out (by kernel_rfl)) (fun _ _ _ h => h) (Or.inl ⟨by rfl, ?_⟩) ?_ ?_
               rotate_left
               ·
                intro w'
                go_simp
                with_reducible rfl
               rotate_left
               ·
                simp only [Act.put, List.setIfInBounds_toArray, List.set_cons_zero, List.set_cons_succ, i64_w, i32_w]
                rfl
               refine pure_ (i := 7) (N := some 49) (v := ?_) (a' := ?_) #[true, true, true, true, true, true, true, true, false, false, false] rfl rfl (any_of HT_.out (by kernel_rfl)) (fun _ _ _ h => h) (Or.inl ⟨by rfl, ?_⟩) ?_ ?_
               rotate_left
               ·
                intro w'
                go_simp
                with_reducible rfl
               rotate_left
               ·
                simp only [Act.put, List.setIfInBounds_toArray, List.set_cons_zero, List.set_cons_succ, i64_w, i32_w]
                rfl
               refine one_ (i := 8) (N := some 9) #[true, true, true, true, true, true, true, true, true, false, false] rfl rfl (one_of HT_.out (by kernel_rfl)) (by decide) (fun K hK => ?_)
               refine box_step ?hg (N := 9) ?hd (cs := #[.int .u64 0, .int .u64 0]) (t := 24) ?hr ?_; (case hd => rfl); (case hg => rfl); (case hr => first | (go_simp; done) | (go_simp; rfl))
               intro gb147 hg w35 hbox hb
               have n0_ := Aside0.mk (blk_below (bT BK134.out) hb)
               have n1_ := Aside0.mk (blk_below (bT BK135.out) hb)
               have n2_ := Aside0.mk (blk_below (bT BK141.out) hb)
               have n3_ := Aside0.mk (below_step (bW HB.out) hb)
               have n4_ := Aside0.mk (hbox)
               have n5_ := Aside0.mk ((by rw [hg]; exact (below_size (bW HB.out)) : w.heap.size ≤ gb147))
               have n6_ := Aside0.mk ((by rw [hg]; exact (below_size (bW HB.out)) : w.heap.size ≤ gb147))
               have n7_ := Aside0.mk ((by rw [hg]; exact Nat.ne_of_lt (blk_lt (bT BK134.out)) : gb134 ≠ gb147))
               have n8_ := Aside0.mk ((by rw [hg]; exact Nat.ne_of_gt (blk_lt (bT BK134.out)) : gb147 ≠ gb134))
               have n9_ := Aside0.mk ((by rw [hg]; exact Nat.ne_of_lt (blk_lt (bT BK135.out)) : gb135 ≠ gb147))
               have n10_ := Aside0.mk ((by rw [hg]; exact Nat.ne_of_gt (blk_lt (bT BK135.out)) : gb147 ≠ gb135))
               have n11_ := Aside0.mk ((by rw [hg]; exact Nat.ne_of_lt (blk_lt (bT BK141.out)) : gb141 ≠ gb147))
               have n12_ := Aside0.mk ((by rw [hg]; exact Nat.ne_of_gt (blk_lt (bT BK141.out)) : gb147 ≠ gb141))
               clear BK134 BK135 BK141 HB
               have BK134 := n0_
               have BK135 := n1_
               have BK141 := n2_
               have HB := n3_
               have BK147 := n4_
               have GW147 := n5_
               have GE147 := n6_
               have NB134_147 := n7_
               have NB147_134 := n8_
               have NB135_147 := n9_
               have NB147_135 := n10_
               have NB141_147 := n11_
               have NB147_141 := n12_
               clear n0_ n1_ n2_ n3_ n4_ n5_ n6_ n7_ n8_ n9_ n10_ n11_ n12_ hb hbox hg
               refine hK.out _ _ ⟨(blk_cell BK141.out 0).trans rfl, (blk_cell BK141.out 1).trans rfl⟩ (fun hHeld => ?_)
               clear hK K
               refine norm_ (a' := ?_) ?_ ?_
               rotate_left
               ·
                show Act.put _ (some 9) _ = _
                simp only [Act.put, List.setIfInBounds_toArray, List.set_cons_zero, List.set_cons_succ, i64_w, i32_w]
                rfl
               exact norm_ (by simp only [putAll, Act.put, List.setIfInBounds_toArray, List.set_cons_zero, List.set_cons_succ]) (hCont (gb147) _ ⟨hHeld, (bT BK134.out), (bT BK135.out), (bT BK141.out), (bT BK147.out), GW147.out, GE147.out, NB134_147.out, NB147_134.out, NB135_147.out, NB147_135.out, NB141_147.out, NB147_141.out, (bW HB.out)⟩)
              ·
               skip
               refine box_step ?hg (N := 9) ?hd (cs := #[.int .u64 0, .int .u64 0]) (t := 24) ?hr ?_; (case hd => rfl); (case hg => rfl); (case hr => first | (go_simp; done) | (go_simp; rfl))
               intro gb147 hg w34 hbox hb
               have n0_ := Aside0.mk (blk_below (bT BK134.out) hb)
               have n1_ := Aside0.mk (blk_below (bT BK135.out) hb)
               have n2_ := Aside0.mk (blk_below (bT BK141.out) hb)
               have n3_ := Aside0.mk (below_step (bW HB.out) hb)
               have n4_ := Aside0.mk (hbox)
               have n5_ := Aside0.mk ((by rw [hg]; exact (below_size (bW HB.out)) : w.heap.size ≤ gb147))
               have n6_ := Aside0.mk ((by rw [hg]; exact (below_size (bW HB.out)) : w.heap.size ≤ gb147))
               have n7_ := Aside0.mk ((by rw [hg]; exact Nat.ne_of_lt (blk_lt (bT BK134.out)) : gb134 ≠ gb147))
               have n8_ := Aside0.mk ((by rw [hg]; exact Nat.ne_of_gt (blk_lt (bT BK134.out)) : gb147 ≠ gb134))
               have n9_ := Aside0.mk ((by rw [hg]; exact Nat.ne_of_lt (blk_lt (bT BK135.out)) : gb135 ≠ gb147))
               have n10_ := Aside0.mk ((by rw [hg]; exact Nat.ne_of_gt (blk_lt (bT BK135.out)) : gb147 ≠ gb135))
               have n11_ := Aside0.mk ((by rw [hg]; exact Nat.ne_of_lt (blk_lt (bT BK141.out)) : gb141 ≠ gb147))
               have n12_ := Aside0.mk ((by rw [hg]; exact Nat.ne_of_gt (blk_lt (bT BK141.out)) : gb147 ≠ gb141))
               clear BK134 BK135 BK141 HB
               have BK134 := n0_
               have BK135 := n1_
               have BK141 := n2_
               have HB := n3_
               have BK147 := n4_
               have GW147 := n5_
               have GE147 := n6_
               have NB134_147 := n7_
               have NB147_134 := n8_
               have NB135_147 := n9_
               have NB147_135 := n10_
               have NB141_147 := n11_
               have NB147_141 := n12_
               clear n0_ n1_ n2_ n3_ n4_ n5_ n6_ n7_ n8_ n9_ n10_ n11_ n12_ hb hbox hg
               refine hK.out _ _ ⟨(blk_cell BK141.out 0).trans rfl, (blk_cell BK141.out 1).trans rfl⟩ (fun hHeld => ?_)
               clear hK K
               refine norm_ (a' := ?_) ?_ ?_
               rotate_left
               ·
                show Act.put _ (some 9) _ = _
                simp only [Act.put, List.setIfInBounds_toArray, List.set_cons_zero, List.set_cons_succ, i64_w, i32_w]
                rfl
               refine one_ (i := 4) (N := some 47) #[true, true, true, true, true, false, false, false, true, false, false] rfl rfl (one_of HT_.out (by kernel_rfl)) (by decide) (fun K hK => ?_)
               refine goes_ Try.func16 (by kernel_rfl) rfl #[.agg #[.int .u64 t138, .int .u64 t139], .agg #[.int .u64 t142, .int .u64 t143]] (by rfl) rfl rfl (by (try simp only [List.map_toArray, List.map_cons, List.map_nil]); first | done | rfl | (simp only [List.length_drop, List.length_take]; rfl)) ?_
               with_reducible refine (wide_Add.calls t138 t139 t142 t143 t144 t145 true _ A21.out).mono ?_
               rintro e w35 ⟨rfl, hb⟩
               refine ⟨_, rfl, ?_⟩
               have n0_ := Aside0.mk (blk_below (bT BK134.out) hb)
               have n1_ := Aside0.mk (blk_below (bT BK135.out) hb)
               have n2_ := Aside0.mk (blk_below (bT BK141.out) hb)
               have n3_ := Aside0.mk (blk_below (bT BK147.out) hb)
               have n4_ := Aside0.mk (below_step (bW HB.out) hb)
               clear BK134 BK135 BK141 BK147 HB
               have BK134 := n0_
               have BK135 := n1_
               have BK141 := n2_
               have BK147 := n3_
               have HB := n4_
               clear n0_ n1_ n2_ n3_ n4_
               (try clear hb)
               (try clear hb2)
               (try clear hk)
               (try clear hi)
               refine hK.out _ _ ⟨(blk_cell BK141.out 0).trans rfl, (blk_cell BK141.out 1).trans rfl⟩ (fun hHeld => ?_)
               clear hK K
               refine norm_ (a' := ?_) ?_ ?_
               rotate_left
               ·
                show Act.put _ (some 47) _ = _
                simp only [Act.put, List.setIfInBounds_toArray, List.set_cons_zero, List.set_cons_succ, i64_w, i32_w]
                rfl
               refine pure_ (i := 5) (N := some 42) (v := ?_) (a' := ?_) #[true, true, true, true, true, true, false, false, true, false, false] rfl rfl (any_of HT_.out (by kernel_rfl)) (fun _ _ _ h => h) (Or.inl ⟨by rfl, ?_⟩) ?_ ?_
               rotate_left
               ·
                intro w'
                go_simp
                with_reducible rfl
               rotate_left
               ·
                simp only [Act.put, List.setIfInBounds_toArray, List.set_cons_zero, List.set_cons_succ, i64_w, i32_w]
                rfl
               refine pure_ (i := 6) (N := some 48) (v := ?_) (a' := ?_) #[true, true, true, true, true, true, true, false, true, false, false] rfl rfl (any_of HT_.out (by kernel_rfl)) (fun _ _ _ h => h) (Or.inl ⟨by rfl, ?_⟩) ?_ ?_
               rotate_left
               ·
                intro w'
                go_simp
                with_reducible rfl
               rotate_left
               ·
                simp only [Act.put, List.setIfInBounds_toArray, List.set_cons_zero, List.set_cons_succ, i64_w, i32_w]
                rfl
               refine pure_ (i := 7) (N := some 49) (v := ?_) (a' := ?_) #[true, true, true, true, true, true, true, true, true, false, false] rfl rfl (any_of HT_.out (by kernel_rfl)) (fun _ _ _ h => h) (Or.inl ⟨by rfl, ?_⟩) ?_ ?_
               rotate_left
               ·
                intro w'
                go_simp
                with_reducible rfl
               rotate_left
               ·
                simp only [Act.put, List.setIfInBounds_toArray, List.set_cons_zero, List.set_cons_succ, i64_w, i32_w]
                rfl
               exact norm_ (by simp only [putAll, Act.put, List.setIfInBounds_toArray, List.set_cons_zero, List.set_cons_succ]) (hCont (gb147) _ ⟨hHeld, (bT BK134.out), (bT BK135.out), (bT BK141.out), (bT BK147.out), GW147.out, GE147.out, NB134_147.out, NB147_134.out, NB135_147.out, NB147_135.out, NB141_147.out, NB147_141.out, (bW HB.out)⟩)
             ·
              skip
              refine box_step ?hg (N := 9) ?hd (cs := #[.int .u64 0, .int .u64 0]) (t := 24) ?hr ?_; (case hd => rfl); (case hg => rfl); (case hr => first | (go_simp; done) | (go_simp; rfl))
              intro gb147 hg w33 hbox hb
              have n0_ := Aside0.mk (blk_below (bT BK134.out) hb)
              have n1_ := Aside0.mk (blk_below (bT BK135.out) hb)
              have n2_ := Aside0.mk (blk_below (bT BK141.out) hb)
              have n3_ := Aside0.mk (below_step (bW HB.out) hb)
              have n4_ := Aside0.mk (hbox)
              have n5_ := Aside0.mk ((by rw [hg]; exact (below_size (bW HB.out)) : w.heap.size ≤ gb147))
              have n6_ := Aside0.mk ((by rw [hg]; exact (below_size (bW HB.out)) : w.heap.size ≤ gb147))
              have n7_ := Aside0.mk ((by rw [hg]; exact Nat.ne_of_lt (blk_lt (bT BK134.out)) : gb134 ≠ gb147))
              have n8_ := Aside0.mk ((by rw [hg]; exact Nat.ne_of_gt (blk_lt (bT BK134.out)) : gb147 ≠ gb134))
              have n9_ := Aside0.mk ((by rw [hg]; exact Nat.ne_of_lt (blk_lt (bT BK135.out)) : gb135 ≠ gb147))
              have n10_ := Aside0.mk ((by rw [hg]; exact Nat.ne_of_gt (blk_lt (bT BK135.out)) : gb147 ≠ gb135))
              have n11_ := Aside0.mk ((by rw [hg]; exact Nat.ne_of_lt (blk_lt (bT BK141.out)) : gb141 ≠ gb147))
              have n12_ := Aside0.mk ((by rw [hg]; exact Nat.ne_of_gt (blk_lt (bT BK141.out)) : gb147 ≠ gb141))
              clear BK134 BK135 BK141 HB
              have BK134 := n0_
              have BK135 := n1_
              have BK141 := n2_
              have HB := n3_
              have BK147 := n4_
              have GW147 := n5_
              have GE147 := n6_
              have NB134_147 := n7_
              have NB147_134 := n8_
              have NB135_147 := n9_
              have NB147_135 := n10_
              have NB141_147 := n11_
              have NB147_141 := n12_
              clear n0_ n1_ n2_ n3_ n4_ n5_ n6_ n7_ n8_ n9_ n10_ n11_ n12_ hb hbox hg
              refine hK.out _ _ ⟨(blk_cell BK141.out 0).trans rfl, (blk_cell BK141.out 1).trans rfl⟩ (fun hHeld => ?_)
              clear hK K
              refine norm_ (a' := ?_) ?_ ?_
              rotate_left
              ·
               show Act.put _ (some 9) _ = _
               simp only [Act.put, List.setIfInBounds_toArray, List.set_cons_zero, List.set_cons_succ, i64_w, i32_w]
               rfl
              refine one_ (i := 3) (N := some 46) #[true, true, true, true, false, false, false, false, true, false, false] rfl rfl (one_of HT_.out (by kernel_rfl)) (by decide) (fun K hK => ?_)
              refine goes_ Try.func18 (by kernel_rfl) rfl #[.int .u64 (((bt a0 x26_2) - 48) % 256)] (by rfl) rfl rfl (by (try simp only [List.map_toArray, List.map_cons, List.map_nil]); first | done | rfl | (simp [Act.eval]; rw [D.wrapE]; omega)) ?_
              with_reducible refine (wide_Of.calls (((bt a0 x26_2) - 48) % 256) t142 t143 _ A20.out).mono ?_
              rintro e w34 ⟨rfl, hb⟩
              refine ⟨_, rfl, ?_⟩
              have n0_ := Aside0.mk (blk_below (bT BK134.out) hb)
              have n1_ := Aside0.mk (blk_below (bT BK135.out) hb)
              have n2_ := Aside0.mk (blk_below (bT BK141.out) hb)
              have n3_ := Aside0.mk (blk_below (bT BK147.out) hb)
              have n4_ := Aside0.mk (below_step (bW HB.out) hb)
              clear BK134 BK135 BK141 BK147 HB
              have BK134 := n0_
              have BK135 := n1_
              have BK141 := n2_
              have BK147 := n3_
              have HB := n4_
              clear n0_ n1_ n2_ n3_ n4_
              (try clear hb)
              (try clear hb2)
              (try clear hk)
              (try clear hi)
              refine hK.out _ _ ⟨(blk_cell BK141.out 0).trans rfl, (blk_cell BK141.out 1).trans rfl⟩ (fun hHeld => ?_)
              clear hK K
              refine norm_ (a' := ?_) ?_ ?_
              rotate_left
              ·
               show Act.put _ (some 46) _ = _
               simp only [Act.put, List.setIfInBounds_toArray, List.set_cons_zero, List.set_cons_succ, i64_w, i32_w]
               rfl
              refine one_ (i := 4) (N := some 47) #[true, true, true, true, true, false, false, false, true, false, false] rfl rfl (one_of HT_.out (by kernel_rfl)) (by decide) (fun K hK => ?_)
              refine goes_ Try.func16 (by kernel_rfl) rfl #[.agg #[.int .u64 t138, .int .u64 t139], .agg #[.int .u64 t142, .int .u64 t143]] (by rfl) rfl rfl (by (try simp only [List.map_toArray, List.map_cons, List.map_nil]); first | done | rfl | (simp only [List.length_drop, List.length_take]; rfl)) ?_
              with_reducible refine (wide_Add.calls t138 t139 t142 t143 t144 t145 true _ A21.out).mono ?_
              rintro e w35 ⟨rfl, hb⟩
              refine ⟨_, rfl, ?_⟩
              have n0_ := Aside0.mk (blk_below (bT BK134.out) hb)
              have n1_ := Aside0.mk (blk_below (bT BK135.out) hb)
              have n2_ := Aside0.mk (blk_below (bT BK141.out) hb)
              have n3_ := Aside0.mk (blk_below (bT BK147.out) hb)
              have n4_ := Aside0.mk (below_step (bW HB.out) hb)
              clear BK134 BK135 BK141 BK147 HB
              have BK134 := n0_
              have BK135 := n1_
              have BK141 := n2_
              have BK147 := n3_
              have HB := n4_
              clear n0_ n1_ n2_ n3_ n4_
              (try clear hb)
              (try clear hb2)
              (try clear hk)
              (try clear hi)
              refine hK.out _ _ ⟨(blk_cell BK141.out 0).trans rfl, (blk_cell BK141.out 1).trans rfl⟩ (fun hHeld => ?_)
              clear hK K
              refine norm_ (a' := ?_) ?_ ?_
              rotate_left
              ·
               show Act.put _ (some 47) _ = _
               simp only [Act.put, List.setIfInBounds_toArray, List.set_cons_zero, List.set_cons_succ, i64_w, i32_w]
               rfl
              refine pure_ (i := 5) (N := some 42) (v := ?_) (a' := ?_) #[true, true, true, true, true, true, false, false, true, false, false] rfl rfl (any_of HT_.out (by kernel_rfl)) (fun _ _ _ h => h) (Or.inl ⟨by rfl, ?_⟩) ?_ ?_
              rotate_left
              ·
               intro w'
               go_simp
               with_reducible rfl
              rotate_left
              ·
               simp only [Act.put, List.setIfInBounds_toArray, List.set_cons_zero, List.set_cons_succ, i64_w, i32_w]
               rfl
              refine pure_ (i := 6) (N := some 48) (v := ?_) (a' := ?_) #[true, true, true, true, true, true, true, false, true, false, false] rfl rfl (any_of HT_.out (by kernel_rfl)) (fun _ _ _ h => h) (Or.inl ⟨by rfl, ?_⟩) ?_ ?_
              rotate_left
              ·
               intro w'
               go_simp
               with_reducible rfl
              rotate_left
              ·
               simp only [Act.put, List.setIfInBounds_toArray, List.set_cons_zero, List.set_cons_succ, i64_w, i32_w]
               rfl
              refine pure_ (i := 7) (N := some 49) (v := ?_) (a' := ?_) #[true, true, true, true, true, true, true, true, true, false, false] rfl rfl (any_of HT_.out (by kernel_rfl)) (fun _ _ _ h => h) (Or.inl ⟨by rfl, ?_⟩) ?_ ?_
              rotate_left
              ·
               intro w'
               go_simp
               with_reducible rfl
              rotate_left
              ·
               simp only [Act.put, List.setIfInBounds_toArray, List.set_cons_zero, List.set_cons_succ, i64_w, i32_w]
               rfl
              exact norm_ (by simp only [putAll, Act.put, List.setIfInBounds_toArray, List.set_cons_zero, List.set_cons_succ]) (hCont (gb147) _ ⟨hHeld, (bT BK134.out), (bT BK135.out), (bT BK141.out), (bT BK147.out), GW147.out, GE147.out, NB134_147.out, NB147_134.out, NB135_147.out, NB147_135.out, NB141_147.out, NB147_141.out, (bW HB.out)⟩)
            rintro gb147 w36 ⟨hS_, h0_, h1_, h2_, h3_, h4_, h5_, h6_, h7_, h8_, h9_, h10_, h11_, h12_⟩
            have n0_ : Aside0 (w36.heap[gb134]? = some (.cells #[.int .u64 x135000_2, .int .u64 x135001_2] 24 (0, 0))) := ⟨h0_⟩
            have n1_ : Aside0 (w36.heap[gb135]? = some (.cells #[.int .u64 x136000_2, .int .u64 x136001_2] 24 (0, 0))) := ⟨h1_⟩
            have n2_ : Aside0 (w36.heap[gb141]? = some (.cells #[.int .u64 t138, .int .u64 t139] 24 (0, 0))) := ⟨h2_⟩
            have n3_ : Aside0 (w36.heap[gb147]? = some (.cells #[.int .u64 0, .int .u64 0] 24 (0, 0))) := ⟨h3_⟩
            have n4_ : Aside0 (w.heap.size ≤ gb147) := ⟨h4_⟩
            have n5_ : Aside0 (w.heap.size ≤ gb147) := ⟨h5_⟩
            have n6_ : Aside0 (gb134 ≠ gb147) := ⟨h6_⟩
            have n7_ : Aside0 (gb147 ≠ gb134) := ⟨h7_⟩
            have n8_ : Aside0 (gb135 ≠ gb147) := ⟨h8_⟩
            have n9_ : Aside0 (gb147 ≠ gb135) := ⟨h9_⟩
            have n10_ : Aside0 (gb141 ≠ gb147) := ⟨h10_⟩
            have n11_ : Aside0 (gb147 ≠ gb141) := ⟨h11_⟩
            have n12_ : Aside0 (Below w.heap.size w w36) := ⟨h12_⟩
            clear BK134 BK135 BK141 HB h0_ h1_ h2_ h3_ h4_ h5_ h6_ h7_ h8_ h9_ h10_ h11_ h12_
            have BK134 := n0_
            have BK135 := n1_
            have BK141 := n2_
            have BK147 := n3_
            have GW147 := n4_
            have GE147 := n5_
            have NB134_147 := n6_
            have NB147_134 := n7_
            have NB135_147 := n8_
            have NB147_135 := n9_
            have NB141_147 := n10_
            have NB147_141 := n11_
            have HB := n12_
            clear n0_ n1_ n2_ n3_ n4_ n5_ n6_ n7_ n8_ n9_ n10_ n11_ n12_
            have hHeld : w36.cell? ⟨gb141, 0, none⟩ = some (.int .u64 t138) ∧ w36.cell? ⟨gb141, 1, none⟩ = some (.int .u64 t139) := hS_
            refine norm_ (a' := ?_) ?_ ?_
            rotate_left
            ·
             simp only [putAll, Act.put, List.setIfInBounds_toArray, List.set_cons_zero, List.set_cons_succ]
             rfl
            refine one_ (i := 9) (N := none) #[true, true, true, true, true, true, true, true, true, true, false] rfl rfl (one_of HT_.out (by kernel_rfl)) (by decide) (fun K hK => ?_)
            have hs37 : w36.cell? ⟨gb147, 0, none⟩ = some (.int .u64 0) := (blk_cell BK147.out 0).trans rfl
            have hfs37 := blk_frozen BK147.out 0
            have hns37_0 := NB134_147.out
            have hns37_1 := NB135_147.out
            have hns37_2 := NB141_147.out
            have hms37_0 := NB147_134.out
            have hms37_1 := NB147_135.out
            have hms37_2 := NB147_141.out
            have hs38 : w36.cell? ⟨gb147, 1, none⟩ = some (.int .u64 0) := (blk_cell BK147.out 1).trans rfl
            have hfs38 := blk_frozen BK147.out 1
            have hns38_0 := NB134_147.out
            have hns38_1 := NB135_147.out
            have hns38_2 := NB141_147.out
            have hms38_0 := NB147_134.out
            have hms38_1 := NB147_135.out
            have hms38_2 := NB147_141.out
            refine skip_ (w1 := ?_) (by rfl) rfl ?_ ?_
            rotate_left
            ·
             go_simp
             rfl
            refine hK.out _ _ ⟨((cell_far (p := ⟨gb147, _, none⟩) NB141_147.out _).trans (((cell_far (p := ⟨gb147, _, none⟩) NB141_147.out _).trans (hHeld.1)))), ((cell_far (p := ⟨gb147, _, none⟩) NB141_147.out _).trans (((cell_far (p := ⟨gb147, _, none⟩) NB141_147.out _).trans (hHeld.2))))⟩ (fun hHeld => ?_)
            clear hK K
            refine pure_ (i := 10) (N := some 10) (v := ?_) (a' := ?_) #[true, true, true, true, true, true, true, true, true, true, true] rfl rfl (any_of HT_.out (by kernel_rfl)) (fun _ _ _ h => h) (Or.inl ⟨by rfl, ?_⟩) ?_ ?_
            rotate_left
            ·
             intro w'
             go_simp
             with_reducible rfl
            rotate_left
            ·
             simp only [Act.put, List.setIfInBounds_toArray, List.set_cons_zero, List.set_cons_succ, i64_w, i32_w]
             rfl
            refine done_ (done_of HT_.out (by kernel_rfl)) ?_
            have hnb39 := NB147_134.out
            have hnc39 := NB134_147.out
            have hnb40 := NB147_135.out
            have hnc40 := NB135_147.out
            have hnb41 := NB147_141.out
            have hnc41 := NB141_147.out
            have hcz42_0 : w36.cell? ⟨gb147, 0, none⟩ = some (.int .u64 0) := (blk_cell BK147.out 0).trans rfl
            have hcz42_1 : w36.cell? ⟨gb147, 1, none⟩ = some (.int .u64 0) := (blk_cell BK147.out 1).trans rfl
            have hfz42_0 := blk_frozen BK147.out 0
            have hfz42_1 := blk_frozen BK147.out 1
            have hnb43 := NB135_134.out
            have hnc43 := NB134_135.out
            have hnb44 := NB135_141.out
            have hnc44 := NB141_135.out
            have hcz45_0 : w36.cell? ⟨gb135, 0, none⟩ = some (.int .u64 x136000_2) := (blk_cell BK135.out 0).trans rfl
            have hcz45_1 : w36.cell? ⟨gb135, 1, none⟩ = some (.int .u64 x136001_2) := (blk_cell BK135.out 1).trans rfl
            have hfz45_0 := blk_frozen BK135.out 0
            have hfz45_1 := blk_frozen BK135.out 1
            try go_wp2
            go_roundg k2
            case measure => have := HJ1.out; have := HK2.out; omega
            case rel => exact ⟨(wrap64 (x26_2 + 1)), (x135000_2), (x135001_2), (t144), (t145), (by first | rfl | (simp; done) | (simp [*]; done)), H', ⟨by have := HJ1.out; have := HK2.out; omega⟩, ⟨by (with_reducible repeat (first | refine blk_drewN ?_ _ | refine blk_drew ?_ | refine blk_alloc ?_ _)); refine blk_far ?_ NB134_135.out _; (with_reducible repeat (first | refine blk_drewN ?_ _ | refine blk_drew ?_ | refine blk_alloc ?_ _)); refine blk_far ?_ NB134_135.out _; (with_reducible repeat (first | refine blk_drewN ?_ _ | refine blk_drew ?_ | refine blk_alloc ?_ _)); refine blk_far ?_ NB134_147.out _; (with_reducible repeat (first | refine blk_drewN ?_ _ | refine blk_drew ?_ | refine blk_alloc ?_ _)); refine blk_far ?_ NB134_147.out _; (with_reducible repeat (first | refine blk_drewN ?_ _ | refine blk_drew ?_ | refine blk_alloc ?_ _)); exact BK134.out⟩, ⟨by (with_reducible repeat (first | refine blk_drewN ?_ _ | refine blk_drew ?_ | refine blk_alloc ?_ _)); refine blk_put (cs := #[.int .u64 t144, .int .u64 x136001_2]) ?_ 1 _ rfl; (with_reducible repeat (first | refine blk_drewN ?_ _ | refine blk_drew ?_ | refine blk_alloc ?_ _)); refine blk_put (cs := #[.int .u64 x136000_2, .int .u64 x136001_2]) ?_ 0 _ rfl; (with_reducible repeat (first | refine blk_drewN ?_ _ | refine blk_drew ?_ | refine blk_alloc ?_ _)); refine blk_far ?_ NB135_147.out _; (with_reducible repeat (first | refine blk_drewN ?_ _ | refine blk_drew ?_ | refine blk_alloc ?_ _)); refine blk_far ?_ NB135_147.out _; (with_reducible repeat (first | refine blk_drewN ?_ _ | refine blk_drew ?_ | refine blk_alloc ?_ _)); exact BK135.out⟩, ⟨by repeat (first | (with_reducible first | exact HB.out | apply below_alloc | apply pw_below_drewN | apply below_drew1 | refine below_set ?_ GE134.out | refine below_set ?_ GE135.out | refine below_set ?_ GE141.out | refine below_set ?_ GE147.out) | exact HB.out)⟩⟩
           ·
            replace c23 := Bool.eq_false_iff.mpr c23
            subst c23
            have H1 : (some (0, 0, false)) = some (r1, r2, r3) := by rw [if_neg (show ¬ (false = true) by decide)] at H; exact H
            clear H
            have H := H1
            clear H1
            simp only [Option.some.injEq, Prod.mk.injEq] at H
            obtain ⟨rfl, rfl, rfl⟩ := H
            have p14 : 0 ≤ (x26_2 : Int) := of_decide_eq_true (by first | (with_reducible assumption) | assumption)
            have q14 : x26_2 < (a0.size : Int) := of_decide_eq_true (by first | (with_reducible assumption) | assumption)
            have hx14 := bt_at a0 x26_2
            replace p14 := eq_true p14
            replace q14 := eq_true q14
            try go_wp2
            have n0_ := Aside0.mk (blk_drew BK134.out)
            have n1_ := Aside0.mk (blk_drew BK135.out)
            have n2_ := Aside0.mk (below_drew1 HB.out)
            clear BK134 BK135 HB
            have BK134 := n0_
            have BK135 := n1_
            have HB := n2_
            clear n0_ n1_ n2_
            refine start_ (n := 9) (S := fun w' => w'.cell? ⟨gb135, 0, none⟩ = some (.int .u64 x136000_2) ∧ w'.cell? ⟨gb135, 1, none⟩ = some (.int .u64 x136001_2)) (ds := []) #[false, false, false, false, false, false, false, false, false] (by kernel_rfl) rfl rfl ⟨(blk_cell BK135.out 0).trans rfl, (blk_cell BK135.out 1).trans rfl⟩ (fun hHeld => ?_); refine with_tabW wide_Read.tab10 wide_Read.bits10 (fun HT_ HW_ => ?_)
            generalize wr.drew = w46 at BK134 BK135 HB hHeld ⊢
            refine take_ (i := 0) (N := some 37) (v := ?_) (a' := ?_) #[true, false, false, false, false, false, false, false, false] rfl rfl (take_ofW HT_.out HW_.out (by kernel_rfl)) (fun _ _ _ h => h) (Or.inl ⟨by rfl, ?_⟩) hHeld ?_ ?_
            rotate_left
            ·
             rintro w' ⟨s0, s1⟩
             go_simp
             with_reducible rfl
            rotate_left
            ·
             simp only [Act.put, List.setIfInBounds_toArray, List.set_cons_zero, List.set_cons_succ, i64_w, i32_w]
             rfl
            refine join_ (σ := Nat) 2 #[true, true, true, true, true, true, true, false, false] (fun s_ => [(38, .agg #[.int .u64 t136, .int .u64 t137]), (39, .tuple #[.agg #[.int .u64 t138, .int .u64 t139], .bool true]), (7, .pointer (some ⟨s_, 0, none⟩)), (36, .tuple #[.agg #[.int .u64 t138, .int .u64 t139], .bool true]), (40, .agg #[.int .u64 t138, .int .u64 t139]), (41, .bool true)]) (fun s_ w' => (w'.cell? ⟨gb135, 0, none⟩ = some (.int .u64 x136000_2) ∧ w'.cell? ⟨gb135, 1, none⟩ = some (.int .u64 x136001_2)) ∧ (w'.heap[gb134]? = some (.cells #[.int .u64 x135000_2, .int .u64 x135001_2] 24 (0, 0))) ∧ (w'.heap[gb135]? = some (.cells #[.int .u64 x136000_2, .int .u64 x136001_2] 24 (0, 0))) ∧ (w'.heap[s_]? = some (.cells #[.int .u64 0, .int .u64 0] 24 (0, 0))) ∧ (w.heap.size ≤ s_) ∧ (w.heap.size ≤ s_) ∧ (gb134 ≠ s_) ∧ (s_ ≠ gb134) ∧ (gb135 ≠ s_) ∧ (s_ ≠ gb135) ∧ (Below w.heap.size w w')) ?_ ?_
            rotate_left
            ·
             intro hCont
             refine two_ (i := 1) (j := 6) (Ni := some 38) (Nj := some 7) #[true, true, false, false, false, false, false, false, false] #[true, false, false, false, false, false, true, false, false] rfl rfl rfl rfl (two_of HT_.out (by kernel_rfl)) (by decide) (by decide) (fun K hK => ?_) (fun K hK => ?_)
             ·
              skip
              refine goes_ Try.func18 (by kernel_rfl) rfl #[.int .u64 10] (by rfl) rfl rfl (by (try simp only [List.map_toArray, List.map_cons, List.map_nil]); first | done | rfl | (simp only [List.length_drop, List.length_take]; rfl)) ?_
              with_reducible refine (wide_Of.calls 10 t136 t137 _ A18.out).mono ?_
              rintro e w47 ⟨rfl, hb⟩
              refine ⟨_, rfl, ?_⟩
              have n0_ := Aside0.mk (blk_below (bT BK134.out) hb)
              have n1_ := Aside0.mk (blk_below (bT BK135.out) hb)
              have n2_ := Aside0.mk (below_step (bW HB.out) hb)
              clear BK134 BK135 HB
              have BK134 := n0_
              have BK135 := n1_
              have HB := n2_
              clear n0_ n1_ n2_
              (try clear hb)
              (try clear hb2)
              (try clear hk)
              (try clear hi)
              refine hK.out _ _ ⟨(blk_cell BK135.out 0).trans rfl, (blk_cell BK135.out 1).trans rfl⟩ (fun hHeld => ?_)
              clear hK K
              refine norm_ (a' := ?_) ?_ ?_
              rotate_left
              ·
               show Act.put _ (some 38) _ = _
               simp only [Act.put, List.setIfInBounds_toArray, List.set_cons_zero, List.set_cons_succ, i64_w, i32_w]
               rfl
              refine two_ (i := 2) (j := 6) (Ni := some 39) (Nj := some 7) #[true, true, true, false, false, false, false, false, false] #[true, true, false, false, false, false, true, false, false] rfl rfl rfl rfl (two_of HT_.out (by kernel_rfl)) (by decide) (by decide) (fun K hK => ?_) (fun K hK => ?_)
              ·
               skip
               refine goes_ Try.func17 (by kernel_rfl) rfl #[.agg #[.int .u64 x136000_2, .int .u64 x136001_2], .agg #[.int .u64 t136, .int .u64 t137]] (by rfl) rfl rfl (by (try simp only [List.map_toArray, List.map_cons, List.map_nil]); first | done | rfl | (simp only [List.length_drop, List.length_take]; rfl)) ?_
               with_reducible refine (wide_Mul.calls x136000_2 x136001_2 t136 t137 t138 t139 true _ A19.out).mono ?_
               rintro e w48 ⟨rfl, hb⟩
               refine ⟨_, rfl, ?_⟩
               have n0_ := Aside0.mk (blk_below (bT BK134.out) hb)
               have n1_ := Aside0.mk (blk_below (bT BK135.out) hb)
               have n2_ := Aside0.mk (below_step (bW HB.out) hb)
               clear BK134 BK135 HB
               have BK134 := n0_
               have BK135 := n1_
               have HB := n2_
               clear n0_ n1_ n2_
               (try clear hb)
               (try clear hb2)
               (try clear hk)
               (try clear hi)
               refine hK.out _ _ ⟨(blk_cell BK135.out 0).trans rfl, (blk_cell BK135.out 1).trans rfl⟩ (fun hHeld => ?_)
               clear hK K
               refine norm_ (a' := ?_) ?_ ?_
               rotate_left
               ·
                show Act.put _ (some 39) _ = _
                simp only [Act.put, List.setIfInBounds_toArray, List.set_cons_zero, List.set_cons_succ, i64_w, i32_w]
                rfl
               refine pure_ (i := 3) (N := some 36) (v := ?_) (a' := ?_) #[true, true, true, true, false, false, false, false, false] rfl rfl (any_of HT_.out (by kernel_rfl)) (fun _ _ _ h => h) (Or.inl ⟨by rfl, ?_⟩) ?_ ?_
               rotate_left
               ·
                intro w'
                go_simp
                with_reducible rfl
               rotate_left
               ·
                simp only [Act.put, List.setIfInBounds_toArray, List.set_cons_zero, List.set_cons_succ, i64_w, i32_w]
                rfl
               refine pure_ (i := 4) (N := some 40) (v := ?_) (a' := ?_) #[true, true, true, true, true, false, false, false, false] rfl rfl (any_of HT_.out (by kernel_rfl)) (fun _ _ _ h => h) (Or.inl ⟨by rfl, ?_⟩) ?_ ?_
               rotate_left
               ·
                intro w'
                go_simp
                with_reducible rfl
               rotate_left
               ·
                simp only [Act.put, List.setIfInBounds_toArray, List.set_cons_zero, List.set_cons_succ, i64_w, i32_w]
                rfl
               refine pure_ (i := 5) (N := some 41) (v := ?_) (a' := ?_) #[true, true, true, true, true, true, false, false, false] rfl rfl (any_of HT_.out (by kernel_rfl)) (fun _ _ _ h => h) (Or.inl ⟨by rfl, ?_⟩) ?_ ?_
               rotate_left
               ·
                intro w'
                go_simp
                with_reducible rfl
               rotate_left
               ·
                simp only [Act.put, List.setIfInBounds_toArray, List.set_cons_zero, List.set_cons_succ, i64_w, i32_w]
                rfl
               refine one_ (i := 6) (N := some 7) #[true, true, true, true, true, true, true, false, false] rfl rfl (one_of HT_.out (by kernel_rfl)) (by decide) (fun K hK => ?_)
               refine box_step ?hg (N := 7) ?hd (cs := #[.int .u64 0, .int .u64 0]) (t := 24) ?hr ?_; (case hd => rfl); (case hg => rfl); (case hr => first | (go_simp; done) | (go_simp; rfl))
               intro gb141 hg w49 hbox hb
               have n0_ := Aside0.mk (blk_below (bT BK134.out) hb)
               have n1_ := Aside0.mk (blk_below (bT BK135.out) hb)
               have n2_ := Aside0.mk (below_step (bW HB.out) hb)
               have n3_ := Aside0.mk (hbox)
               have n4_ := Aside0.mk ((by rw [hg]; exact (below_size (bW HB.out)) : w.heap.size ≤ gb141))
               have n5_ := Aside0.mk ((by rw [hg]; exact (below_size (bW HB.out)) : w.heap.size ≤ gb141))
               have n6_ := Aside0.mk ((by rw [hg]; exact Nat.ne_of_lt (blk_lt (bT BK134.out)) : gb134 ≠ gb141))
               have n7_ := Aside0.mk ((by rw [hg]; exact Nat.ne_of_gt (blk_lt (bT BK134.out)) : gb141 ≠ gb134))
               have n8_ := Aside0.mk ((by rw [hg]; exact Nat.ne_of_lt (blk_lt (bT BK135.out)) : gb135 ≠ gb141))
               have n9_ := Aside0.mk ((by rw [hg]; exact Nat.ne_of_gt (blk_lt (bT BK135.out)) : gb141 ≠ gb135))
               clear BK134 BK135 HB
               have BK134 := n0_
               have BK135 := n1_
               have HB := n2_
               have BK141 := n3_
               have GW141 := n4_
               have GE141 := n5_
               have NB134_141 := n6_
               have NB141_134 := n7_
               have NB135_141 := n8_
               have NB141_135 := n9_
               clear n0_ n1_ n2_ n3_ n4_ n5_ n6_ n7_ n8_ n9_ hb hbox hg
               refine hK.out _ _ ⟨(blk_cell BK135.out 0).trans rfl, (blk_cell BK135.out 1).trans rfl⟩ (fun hHeld => ?_)
               clear hK K
               refine norm_ (a' := ?_) ?_ ?_
               rotate_left
               ·
                show Act.put _ (some 7) _ = _
                simp only [Act.put, List.setIfInBounds_toArray, List.set_cons_zero, List.set_cons_succ, i64_w, i32_w]
                rfl
               exact norm_ (by simp only [putAll, Act.put, List.setIfInBounds_toArray, List.set_cons_zero, List.set_cons_succ]) (hCont (gb141) _ ⟨hHeld, (bT BK134.out), (bT BK135.out), (bT BK141.out), GW141.out, GE141.out, NB134_141.out, NB141_134.out, NB135_141.out, NB141_135.out, (bW HB.out)⟩)
              ·
               skip
               refine box_step ?hg (N := 7) ?hd (cs := #[.int .u64 0, .int .u64 0]) (t := 24) ?hr ?_; (case hd => rfl); (case hg => rfl); (case hr => first | (go_simp; done) | (go_simp; rfl))
               intro gb141 hg w48 hbox hb
               have n0_ := Aside0.mk (blk_below (bT BK134.out) hb)
               have n1_ := Aside0.mk (blk_below (bT BK135.out) hb)
               have n2_ := Aside0.mk (below_step (bW HB.out) hb)
               have n3_ := Aside0.mk (hbox)
               have n4_ := Aside0.mk ((by rw [hg]; exact (below_size (bW HB.out)) : w.heap.size ≤ gb141))
               have n5_ := Aside0.mk ((by rw [hg]; exact (below_size (bW HB.out)) : w.heap.size ≤ gb141))
               have n6_ := Aside0.mk ((by rw [hg]; exact Nat.ne_of_lt (blk_lt (bT BK134.out)) : gb134 ≠ gb141))
               have n7_ := Aside0.mk ((by rw [hg]; exact Nat.ne_of_gt (blk_lt (bT BK134.out)) : gb141 ≠ gb134))
               have n8_ := Aside0.mk ((by rw [hg]; exact Nat.ne_of_lt (blk_lt (bT BK135.out)) : gb135 ≠ gb141))
               have n9_ := Aside0.mk ((by rw [hg]; exact Nat.ne_of_gt (blk_lt (bT BK135.out)) : gb141 ≠ gb135))
               clear BK134 BK135 HB
               have BK134 := n0_
               have BK135 := n1_
               have HB := n2_
               have BK141 := n3_
               have GW141 := n4_
               have GE141 := n5_
               have NB134_141 := n6_
               have NB141_134 := n7_
               have NB135_141 := n8_
               have NB141_135 := n9_
               clear n0_ n1_ n2_ n3_ n4_ n5_ n6_ n7_ n8_ n9_ hb hbox hg
               refine hK.out _ _ ⟨(blk_cell BK135.out 0).trans rfl, (blk_cell BK135.out 1).trans rfl⟩ (fun hHeld => ?_)
               clear hK K
               refine norm_ (a' := ?_) ?_ ?_
               rotate_left
               ·
                show Act.put _ (some 7) _ = _
                simp only [Act.put, List.setIfInBounds_toArray, List.set_cons_zero, List.set_cons_succ, i64_w, i32_w]
                rfl
               refine one_ (i := 2) (N := some 39) #[true, true, true, false, false, false, true, false, false] rfl rfl (one_of HT_.out (by kernel_rfl)) (by decide) (fun K hK => ?_)
               refine goes_ Try.func17 (by kernel_rfl) rfl #[.agg #[.int .u64 x136000_2, .int .u64 x136001_2], .agg #[.int .u64 t136, .int .u64 t137]] (by rfl) rfl rfl (by (try simp only [List.map_toArray, List.map_cons, List.map_nil]); first | done | rfl | (simp only [List.length_drop, List.length_take]; rfl)) ?_
               with_reducible refine (wide_Mul.calls x136000_2 x136001_2 t136 t137 t138 t139 true _ A19.out).mono ?_
               rintro e w49 ⟨rfl, hb⟩
               refine ⟨_, rfl, ?_⟩
               have n0_ := Aside0.mk (blk_below (bT BK134.out) hb)
               have n1_ := Aside0.mk (blk_below (bT BK135.out) hb)
               have n2_ := Aside0.mk (blk_below (bT BK141.out) hb)
               have n3_ := Aside0.mk (below_step (bW HB.out) hb)
               clear BK134 BK135 BK141 HB
               have BK134 := n0_
               have BK135 := n1_
               have BK141 := n2_
               have HB := n3_
               clear n0_ n1_ n2_ n3_
               (try clear hb)
               (try clear hb2)
               (try clear hk)
               (try clear hi)
               refine hK.out _ _ ⟨(blk_cell BK135.out 0).trans rfl, (blk_cell BK135.out 1).trans rfl⟩ (fun hHeld => ?_)
               clear hK K
               refine norm_ (a' := ?_) ?_ ?_
               rotate_left
               ·
                show Act.put _ (some 39) _ = _
                simp only [Act.put, List.setIfInBounds_toArray, List.set_cons_zero, List.set_cons_succ, i64_w, i32_w]
                rfl
               refine pure_ (i := 3) (N := some 36) (v := ?_) (a' := ?_) #[true, true, true, true, false, false, true, false, false] rfl rfl (any_of HT_.out (by kernel_rfl)) (fun _ _ _ h => h) (Or.inl ⟨by rfl, ?_⟩) ?_ ?_
               rotate_left
               ·
                intro w'
                go_simp
                with_reducible rfl
               rotate_left
               ·
                simp only [Act.put, List.setIfInBounds_toArray, List.set_cons_zero, List.set_cons_succ, i64_w, i32_w]
                rfl
               refine pure_ (i := 4) (N := some 40) (v := ?_) (a' := ?_) #[true, true, true, true, true, false, true, false, false] rfl rfl (any_of HT_.out (by kernel_rfl)) (fun _ _ _ h => h) (Or.inl ⟨by rfl, ?_⟩) ?_ ?_
               rotate_left
               ·
                intro w'
                go_simp
                with_reducible rfl
               rotate_left
               ·
                simp only [Act.put, List.setIfInBounds_toArray, List.set_cons_zero, List.set_cons_succ, i64_w, i32_w]
                rfl
               refine pure_ (i := 5) (N := some 41) (v := ?_) (a' := ?_) #[true, true, true, true, true, true, true, false, false] rfl rfl (any_of HT_.out (by kernel_rfl)) (fun _ _ _ h => h) (Or.inl ⟨by rfl, ?_⟩) ?_ ?_
               rotate_left
               ·
                intro w'
                go_simp
                with_reducible rfl
               rotate_left
               ·
                simp only [Act.put, List.setIfInBounds_toArray, List.set_cons_zero, List.set_cons_succ, i64_w, i32_w]
                rfl
               exact norm_ (by simp only [putAll, Act.put, List.setIfInBounds_toArray, List.set_cons_zero, List.set_cons_succ]) (hCont (gb141) _ ⟨hHeld, (bT BK134.out), (bT BK135.out), (bT BK141.out), GW141.out, GE141.out, NB134_141.out, NB141_134.out, NB135_141.out, NB141_135.out, (bW HB.out)⟩)
             ·
              skip
              refine box_step ?hg (N := 7) ?hd (cs := #[.int .u64 0, .int .u64 0]) (t := 24) ?hr ?_; (case hd => rfl); (case hg => rfl); (case hr => first | (go_simp; done) | (go_simp; rfl))
              intro gb141 hg w47 hbox hb
              have n0_ := Aside0.mk (blk_below (bT BK134.out) hb)
              have n1_ := Aside0.mk (blk_below (bT BK135.out) hb)
              have n2_ := Aside0.mk (below_step (bW HB.out) hb)
              have n3_ := Aside0.mk (hbox)
              have n4_ := Aside0.mk ((by rw [hg]; exact (below_size (bW HB.out)) : w.heap.size ≤ gb141))
              have n5_ := Aside0.mk ((by rw [hg]; exact (below_size (bW HB.out)) : w.heap.size ≤ gb141))
              have n6_ := Aside0.mk ((by rw [hg]; exact Nat.ne_of_lt (blk_lt (bT BK134.out)) : gb134 ≠ gb141))
              have n7_ := Aside0.mk ((by rw [hg]; exact Nat.ne_of_gt (blk_lt (bT BK134.out)) : gb141 ≠ gb134))
              have n8_ := Aside0.mk ((by rw [hg]; exact Nat.ne_of_lt (blk_lt (bT BK135.out)) : gb135 ≠ gb141))
              have n9_ := Aside0.mk ((by rw [hg]; exact Nat.ne_of_gt (blk_lt (bT BK135.out)) : gb141 ≠ gb135))
              clear BK134 BK135 HB
              have BK134 := n0_
              have BK135 := n1_
              have HB := n2_
              have BK141 := n3_
              have GW141 := n4_
              have GE141 := n5_
              have NB134_141 := n6_
              have NB141_134 := n7_
              have NB135_141 := n8_
              have NB141_135 := n9_
              clear n0_ n1_ n2_ n3_ n4_ n5_ n6_ n7_ n8_ n9_ hb hbox hg
              refine hK.out _ _ ⟨(blk_cell BK135.out 0).trans rfl, (blk_cell BK135.out 1).trans rfl⟩ (fun hHeld => ?_)
              clear hK K
              refine norm_ (a' := ?_) ?_ ?_
              rotate_left
              ·
               show Act.put _ (some 7) _ = _
               simp only [Act.put, List.setIfInBounds_toArray, List.set_cons_zero, List.set_cons_succ, i64_w, i32_w]
               rfl
              refine one_ (i := 1) (N := some 38) #[true, true, false, false, false, false, true, false, false] rfl rfl (one_of HT_.out (by kernel_rfl)) (by decide) (fun K hK => ?_)
              refine goes_ Try.func18 (by kernel_rfl) rfl #[.int .u64 10] (by rfl) rfl rfl (by (try simp only [List.map_toArray, List.map_cons, List.map_nil]); first | done | rfl | (simp only [List.length_drop, List.length_take]; rfl)) ?_
              with_reducible refine (wide_Of.calls 10 t136 t137 _ A18.out).mono ?_
              rintro e w48 ⟨rfl, hb⟩
              refine ⟨_, rfl, ?_⟩
              have n0_ := Aside0.mk (blk_below (bT BK134.out) hb)
              have n1_ := Aside0.mk (blk_below (bT BK135.out) hb)
              have n2_ := Aside0.mk (blk_below (bT BK141.out) hb)
              have n3_ := Aside0.mk (below_step (bW HB.out) hb)
              clear BK134 BK135 BK141 HB
              have BK134 := n0_
              have BK135 := n1_
              have BK141 := n2_
              have HB := n3_
              clear n0_ n1_ n2_ n3_
              (try clear hb)
              (try clear hb2)
              (try clear hk)
              (try clear hi)
              refine hK.out _ _ ⟨(blk_cell BK135.out 0).trans rfl, (blk_cell BK135.out 1).trans rfl⟩ (fun hHeld => ?_)
              clear hK K
              refine norm_ (a' := ?_) ?_ ?_
              rotate_left
              ·
               show Act.put _ (some 38) _ = _
               simp only [Act.put, List.setIfInBounds_toArray, List.set_cons_zero, List.set_cons_succ, i64_w, i32_w]
               rfl
              refine one_ (i := 2) (N := some 39) #[true, true, true, false, false, false, true, false, false] rfl rfl (one_of HT_.out (by kernel_rfl)) (by decide) (fun K hK => ?_)
              refine goes_ Try.func17 (by kernel_rfl) rfl #[.agg #[.int .u64 x136000_2, .int .u64 x136001_2], .agg #[.int .u64 t136, .int .u64 t137]] (by rfl) rfl rfl (by (try simp only [List.map_toArray, List.map_cons, List.map_nil]); first | done | rfl | (simp only [List.length_drop, List.length_take]; rfl)) ?_
              with_reducible refine (wide_Mul.calls x136000_2 x136001_2 t136 t137 t138 t139 true _ A19.out).mono ?_
              rintro e w49 ⟨rfl, hb⟩
              refine ⟨_, rfl, ?_⟩
              have n0_ := Aside0.mk (blk_below (bT BK134.out) hb)
              have n1_ := Aside0.mk (blk_below (bT BK135.out) hb)
              have n2_ := Aside0.mk (blk_below (bT BK141.out) hb)
              have n3_ := Aside0.mk (below_step (bW HB.out) hb)
              clear BK134 BK135 BK141 HB
              have BK134 := n0_
              have BK135 := n1_
              have BK141 := n2_
              have HB := n3_
              clear n0_ n1_ n2_ n3_
              (try clear hb)
              (try clear hb2)
              (try clear hk)
              (try clear hi)
              refine hK.out _ _ ⟨(blk_cell BK135.out 0).trans rfl, (blk_cell BK135.out 1).trans rfl⟩ (fun hHeld => ?_)
              clear hK K
              refine norm_ (a' := ?_) ?_ ?_
              rotate_left
              ·
               show Act.put _ (some 39) _ = _
               simp only [Act.put, List.setIfInBounds_toArray, List.set_cons_zero, List.set_cons_succ, i64_w, i32_w]
               rfl
              refine pure_ (i := 3) (N := some 36) (v := ?_) (a' := ?_) #[true, true, true, true, false, false, true, false, false] rfl rfl (any_of HT_.out (by kernel_rfl)) (fun _ _ _ h => h) (Or.inl ⟨by rfl, ?_⟩) ?_ ?_
              rotate_left
              ·
               intro w'
               go_simp
               with_reducible rfl
              rotate_left
              ·
               simp only [Act.put, List.setIfInBounds_toArray, List.set_cons_zero, List.set_cons_succ, i64_w, i32_w]
               rfl
              refine pure_ (i := 4) (N := some 40) (v := ?_) (a' := ?_) #[true, true, true, true, true, false, true, false, false] rfl rfl (any_of HT_.out (by kernel_rfl)) (fun _ _ _ h => h) (Or.inl ⟨by rfl, ?_⟩) ?_ ?_
              rotate_left
              ·
               intro w'
               go_simp
               with_reducible rfl
              rotate_left
              ·
               simp only [Act.put, List.setIfInBounds_toArray, List.set_cons_zero, List.set_cons_succ, i64_w, i32_w]
               rfl
              refine pure_ (i := 5) (N := some 41) (v := ?_) (a' := ?_) #[true, true, true, true, true, true, true, false, false] rfl rfl (any_of HT_.out (by kernel_rfl)) (fun _ _ _ h => h) (Or.inl ⟨by rfl, ?_⟩) ?_ ?_
              rotate_left
              ·
               intro w'
               go_simp
               with_reducible rfl
              rotate_left
              ·
               simp only [Act.put, List.setIfInBounds_toArray, List.set_cons_zero, List.set_cons_succ, i64_w, i32_w]
               rfl
              exact norm_ (by simp only [putAll, Act.put, List.setIfInBounds_toArray, List.set_cons_zero, List.set_cons_succ]) (hCont (gb141) _ ⟨hHeld, (bT BK134.out), (bT BK135.out), (bT BK141.out), GW141.out, GE141.out, NB134_141.out, NB141_134.out, NB135_141.out, NB141_135.out, (bW HB.out)⟩)
            rintro gb141 w50 ⟨hS_, h0_, h1_, h2_, h3_, h4_, h5_, h6_, h7_, h8_, h9_⟩
            have n0_ : Aside0 (w50.heap[gb134]? = some (.cells #[.int .u64 x135000_2, .int .u64 x135001_2] 24 (0, 0))) := ⟨h0_⟩
            have n1_ : Aside0 (w50.heap[gb135]? = some (.cells #[.int .u64 x136000_2, .int .u64 x136001_2] 24 (0, 0))) := ⟨h1_⟩
            have n2_ : Aside0 (w50.heap[gb141]? = some (.cells #[.int .u64 0, .int .u64 0] 24 (0, 0))) := ⟨h2_⟩
            have n3_ : Aside0 (w.heap.size ≤ gb141) := ⟨h3_⟩
            have n4_ : Aside0 (w.heap.size ≤ gb141) := ⟨h4_⟩
            have n5_ : Aside0 (gb134 ≠ gb141) := ⟨h5_⟩
            have n6_ : Aside0 (gb141 ≠ gb134) := ⟨h6_⟩
            have n7_ : Aside0 (gb135 ≠ gb141) := ⟨h7_⟩
            have n8_ : Aside0 (gb141 ≠ gb135) := ⟨h8_⟩
            have n9_ : Aside0 (Below w.heap.size w w50) := ⟨h9_⟩
            clear BK134 BK135 HB h0_ h1_ h2_ h3_ h4_ h5_ h6_ h7_ h8_ h9_
            have BK134 := n0_
            have BK135 := n1_
            have BK141 := n2_
            have GW141 := n3_
            have GE141 := n4_
            have NB134_141 := n5_
            have NB141_134 := n6_
            have NB135_141 := n7_
            have NB141_135 := n8_
            have HB := n9_
            clear n0_ n1_ n2_ n3_ n4_ n5_ n6_ n7_ n8_ n9_
            have hHeld : w50.cell? ⟨gb135, 0, none⟩ = some (.int .u64 x136000_2) ∧ w50.cell? ⟨gb135, 1, none⟩ = some (.int .u64 x136001_2) := hS_
            refine norm_ (a' := ?_) ?_ ?_
            rotate_left
            ·
             simp only [putAll, Act.put, List.setIfInBounds_toArray, List.set_cons_zero, List.set_cons_succ]
             rfl
            refine one_ (i := 7) (N := none) #[true, true, true, true, true, true, true, true, false] rfl rfl (one_of HT_.out (by kernel_rfl)) (by decide) (fun K hK => ?_)
            have hs51 : w50.cell? ⟨gb141, 0, none⟩ = some (.int .u64 0) := (blk_cell BK141.out 0).trans rfl
            have hfs51 := blk_frozen BK141.out 0
            have hns51_0 := NB134_141.out
            have hns51_1 := NB135_141.out
            have hms51_0 := NB141_134.out
            have hms51_1 := NB141_135.out
            have hs52 : w50.cell? ⟨gb141, 1, none⟩ = some (.int .u64 0) := (blk_cell BK141.out 1).trans rfl
            have hfs52 := blk_frozen BK141.out 1
            have hns52_0 := NB134_141.out
            have hns52_1 := NB135_141.out
            have hms52_0 := NB141_134.out
            have hms52_1 := NB141_135.out
            refine skip_ (w1 := ?_) (by rfl) rfl ?_ ?_
            rotate_left
            ·
             go_simp
             rfl
            refine hK.out _ _ ⟨((cell_far (p := ⟨gb141, _, none⟩) NB135_141.out _).trans (((cell_far (p := ⟨gb141, _, none⟩) NB135_141.out _).trans (hHeld.1)))), ((cell_far (p := ⟨gb141, _, none⟩) NB135_141.out _).trans (((cell_far (p := ⟨gb141, _, none⟩) NB135_141.out _).trans (hHeld.2))))⟩ (fun hHeld => ?_)
            clear hK K
            refine pure_ (i := 8) (N := some 8) (v := ?_) (a' := ?_) #[true, true, true, true, true, true, true, true, true] rfl rfl (any_of HT_.out (by kernel_rfl)) (fun _ _ _ h => h) (Or.inl ⟨by rfl, ?_⟩) ?_ ?_
            rotate_left
            ·
             intro w'
             go_simp
             with_reducible rfl
            rotate_left
            ·
             simp only [Act.put, List.setIfInBounds_toArray, List.set_cons_zero, List.set_cons_succ, i64_w, i32_w]
             rfl
            refine done_ (done_of HT_.out (by kernel_rfl)) ?_
            try go_wp2
            have n0_ : Aside0 (((w50.setCell ⟨gb141, 0, none⟩ (.int .u64 t138)).setCell ⟨gb141, 1, none⟩ (.int .u64 t139)).heap[gb134]? = some (.cells #[.int .u64 x135000_2, .int .u64 x135001_2] 24 (0, 0))) := ⟨by (with_reducible repeat (first | refine blk_drewN ?_ _ | refine blk_drew ?_ | refine blk_alloc ?_ _)); refine blk_far ?_ NB134_141.out _; (with_reducible repeat (first | refine blk_drewN ?_ _ | refine blk_drew ?_ | refine blk_alloc ?_ _)); refine blk_far ?_ NB134_141.out _; (with_reducible repeat (first | refine blk_drewN ?_ _ | refine blk_drew ?_ | refine blk_alloc ?_ _)); exact BK134.out⟩
            have n1_ : Aside0 (((w50.setCell ⟨gb141, 0, none⟩ (.int .u64 t138)).setCell ⟨gb141, 1, none⟩ (.int .u64 t139)).heap[gb135]? = some (.cells #[.int .u64 x136000_2, .int .u64 x136001_2] 24 (0, 0))) := ⟨by (with_reducible repeat (first | refine blk_drewN ?_ _ | refine blk_drew ?_ | refine blk_alloc ?_ _)); refine blk_far ?_ NB135_141.out _; (with_reducible repeat (first | refine blk_drewN ?_ _ | refine blk_drew ?_ | refine blk_alloc ?_ _)); refine blk_far ?_ NB135_141.out _; (with_reducible repeat (first | refine blk_drewN ?_ _ | refine blk_drew ?_ | refine blk_alloc ?_ _)); exact BK135.out⟩
            have n2_ : Aside0 (((w50.setCell ⟨gb141, 0, none⟩ (.int .u64 t138)).setCell ⟨gb141, 1, none⟩ (.int .u64 t139)).heap[gb141]? = some (.cells #[.int .u64 t138, .int .u64 t139] 24 (0, 0))) := ⟨by (with_reducible repeat (first | refine blk_drewN ?_ _ | refine blk_drew ?_ | refine blk_alloc ?_ _)); refine blk_put (cs := #[.int .u64 t138, .int .u64 0]) ?_ 1 _ rfl; (with_reducible repeat (first | refine blk_drewN ?_ _ | refine blk_drew ?_ | refine blk_alloc ?_ _)); refine blk_put (cs := #[.int .u64 0, .int .u64 0]) ?_ 0 _ rfl; (with_reducible repeat (first | refine blk_drewN ?_ _ | refine blk_drew ?_ | refine blk_alloc ?_ _)); exact BK141.out⟩
            have n3_ : Aside0 (Below w.heap.size w ((w50.setCell ⟨gb141, 0, none⟩ (.int .u64 t138)).setCell ⟨gb141, 1, none⟩ (.int .u64 t139))) := ⟨by repeat (first | (with_reducible first | exact HB.out | apply below_alloc | apply pw_below_drewN | apply below_drew1 | refine below_set ?_ GE134.out | refine below_set ?_ GE135.out | refine below_set ?_ GE141.out) | exact HB.out)⟩
            (try clear BK134)
            (try clear BK135)
            (try clear BK141)
            (try clear HB)
            generalize ((w50.setCell ⟨gb141, 0, none⟩ (.int .u64 t138)).setCell ⟨gb141, 1, none⟩ (.int .u64 t139)) = w53 at n0_ n1_ n2_ n3_ ⊢
            have BK134 := n0_
            have BK135 := n1_
            have BK141 := n2_
            have HB := n3_
            clear n0_ n1_ n2_ n3_
            have n0_ := Aside0.mk (blk_drew BK134.out)
            have n1_ := Aside0.mk (blk_drew BK135.out)
            have n2_ := Aside0.mk (blk_drew BK141.out)
            have n3_ := Aside0.mk (below_drew1 HB.out)
            clear BK134 BK135 BK141 HB
            have BK134 := n0_
            have BK135 := n1_
            have BK141 := n2_
            have HB := n3_
            clear n0_ n1_ n2_ n3_
            refine start_ (n := 11) (S := fun w' => w'.cell? ⟨gb141, 0, none⟩ = some (.int .u64 t138) ∧ w'.cell? ⟨gb141, 1, none⟩ = some (.int .u64 t139)) (ds := []) #[false, false, false, false, false, false, false, false, false, false, false] (by kernel_rfl) rfl rfl ⟨(blk_cell BK141.out 0).trans rfl, (blk_cell BK141.out 1).trans rfl⟩ (fun hHeld => ?_); refine with_tabW wide_Read.tab11 wide_Read.bits11 (fun HT_ HW_ => ?_)
            generalize w53.drew = w54 at BK134 BK135 BK141 HB hHeld ⊢
            refine pure_ (i := 1) (N := some 44) (v := ?_) (a' := ?_) #[false, true, false, false, false, false, false, false, false, false, false] rfl rfl (any_of HT_.out (by kernel_rfl)) (fun _ _ _ h => h) (Or.inl ⟨by rfl, ?_⟩) ?_ ?_
            rotate_left
            ·
             intro w'
             go_simp
             with_reducible rfl
            rotate_left
            ·
             simp only [Act.put, List.setIfInBounds_toArray, List.set_cons_zero, List.set_cons_succ, i64_w, i32_w]
             rfl
            refine pure_ (i := 2) (N := some 45) (v := ?_) (a' := ?_) #[false, true, true, false, false, false, false, false, false, false, false] rfl rfl (any_of HT_.out (by kernel_rfl)) (fun _ _ _ h => h) (Or.inl ⟨by rfl, ?_⟩) ?_ ?_
            rotate_left
            ·
             intro w'
             go_simp
             with_reducible rfl
            rotate_left
            ·
             simp only [Act.put, List.setIfInBounds_toArray, List.set_cons_zero, List.set_cons_succ, i64_w, i32_w]
             rfl
            refine take_ (i := 0) (N := some 43) (v := ?_) (a' := ?_) #[true, true, true, false, false, false, false, false, false, false, false] rfl rfl (take_ofW HT_.out HW_.out (by kernel_rfl)) (fun _ _ _ h => h) (Or.inl ⟨by rfl, ?_⟩) hHeld ?_ ?_
            rotate_left
            ·
             rintro w' ⟨s0, s1⟩
             go_simp
             with_reducible rfl
            rotate_left
            ·
             simp only [Act.put, List.setIfInBounds_toArray, List.set_cons_zero, List.set_cons_succ, i64_w, i32_w]
             rfl
            refine join_ (σ := Nat) 2 #[true, true, true, true, true, true, true, true, true, false, false] (fun s_ => [(46, .agg #[.int .u64 t142, .int .u64 t143]), (47, .tuple #[.agg #[.int .u64 t144, .int .u64 t145], .bool false]), (9, .pointer (some ⟨s_, 0, none⟩)), (42, .tuple #[.agg #[.int .u64 t144, .int .u64 t145], .bool false]), (48, .agg #[.int .u64 t144, .int .u64 t145]), (49, .bool false)]) (fun s_ w' => (w'.cell? ⟨gb141, 0, none⟩ = some (.int .u64 t138) ∧ w'.cell? ⟨gb141, 1, none⟩ = some (.int .u64 t139)) ∧ (w'.heap[gb134]? = some (.cells #[.int .u64 x135000_2, .int .u64 x135001_2] 24 (0, 0))) ∧ (w'.heap[gb135]? = some (.cells #[.int .u64 x136000_2, .int .u64 x136001_2] 24 (0, 0))) ∧ (w'.heap[gb141]? = some (.cells #[.int .u64 t138, .int .u64 t139] 24 (0, 0))) ∧ (w'.heap[s_]? = some (.cells #[.int .u64 0, .int .u64 0] 24 (0, 0))) ∧ (w.heap.size ≤ s_) ∧ (w.heap.size ≤ s_) ∧ (gb134 ≠ s_) ∧ (s_ ≠ gb134) ∧ (gb135 ≠ s_) ∧ (s_ ≠ gb135) ∧ (gb141 ≠ s_) ∧ (s_ ≠ gb141) ∧ (Below w.heap.size w w')) ?_ ?_
            rotate_left
            ·
             intro hCont
             refine two_ (i := 3) (j := 8) (Ni := some 46) (Nj := some 9) #[true, true, true, true, false, false, false, false, false, false, false] #[true, true, true, false, false, false, false, false, true, false, false] rfl rfl rfl rfl (two_of HT_.out (by kernel_rfl)) (by decide) (by decide) (fun K hK => ?_) (fun K hK => ?_)
             ·
              skip
              refine goes_ Try.func18 (by kernel_rfl) rfl #[.int .u64 (((bt a0 x26_2) - 48) % 256)] (by rfl) rfl rfl (by (try simp only [List.map_toArray, List.map_cons, List.map_nil]); first | done | rfl | (simp [Act.eval]; rw [D.wrapE]; omega)) ?_
              with_reducible refine (wide_Of.calls (((bt a0 x26_2) - 48) % 256) t142 t143 _ A20.out).mono ?_
              rintro e w55 ⟨rfl, hb⟩
              refine ⟨_, rfl, ?_⟩
              have n0_ := Aside0.mk (blk_below (bT BK134.out) hb)
              have n1_ := Aside0.mk (blk_below (bT BK135.out) hb)
              have n2_ := Aside0.mk (blk_below (bT BK141.out) hb)
              have n3_ := Aside0.mk (below_step (bW HB.out) hb)
              clear BK134 BK135 BK141 HB
              have BK134 := n0_
              have BK135 := n1_
              have BK141 := n2_
              have HB := n3_
              clear n0_ n1_ n2_ n3_
              (try clear hb)
              (try clear hb2)
              (try clear hk)
              (try clear hi)
              refine hK.out _ _ ⟨(blk_cell BK141.out 0).trans rfl, (blk_cell BK141.out 1).trans rfl⟩ (fun hHeld => ?_)
              clear hK K
              refine norm_ (a' := ?_) ?_ ?_
              rotate_left
              ·
               show Act.put _ (some 46) _ = _
               simp only [Act.put, List.setIfInBounds_toArray, List.set_cons_zero, List.set_cons_succ, i64_w, i32_w]
               rfl
              refine two_ (i := 4) (j := 8) (Ni := some 47) (Nj := some 9) #[true, true, true, true, true, false, false, false, false, false, false] #[true, true, true, true, false, false, false, false, true, false, false] rfl rfl rfl rfl (two_of HT_.out (by kernel_rfl)) (by decide) (by decide) (fun K hK => ?_) (fun K hK => ?_)
              ·
               skip
               refine goes_ Try.func16 (by kernel_rfl) rfl #[.agg #[.int .u64 t138, .int .u64 t139], .agg #[.int .u64 t142, .int .u64 t143]] (by rfl) rfl rfl (by (try simp only [List.map_toArray, List.map_cons, List.map_nil]); first | done | rfl | (simp only [List.length_drop, List.length_take]; rfl)) ?_
               with_reducible refine (wide_Add.calls t138 t139 t142 t143 t144 t145 false _ A21.out).mono ?_
               rintro e w56 ⟨rfl, hb⟩
               refine ⟨_, rfl, ?_⟩
               have n0_ := Aside0.mk (blk_below (bT BK134.out) hb)
               have n1_ := Aside0.mk (blk_below (bT BK135.out) hb)
               have n2_ := Aside0.mk (blk_below (bT BK141.out) hb)
               have n3_ := Aside0.mk (below_step (bW HB.out) hb)
               clear BK134 BK135 BK141 HB
               have BK134 := n0_
               have BK135 := n1_
               have BK141 := n2_
               have HB := n3_
               clear n0_ n1_ n2_ n3_
               (try clear hb)
               (try clear hb2)
               (try clear hk)
               (try clear hi)
               refine hK.out _ _ ⟨(blk_cell BK141.out 0).trans rfl, (blk_cell BK141.out 1).trans rfl⟩ (fun hHeld => ?_)
               clear hK K
               refine norm_ (a' := ?_) ?_ ?_
               rotate_left
               ·
                show Act.put _ (some 47) _ = _
                simp only [Act.put, List.setIfInBounds_toArray, List.set_cons_zero, List.set_cons_succ, i64_w, i32_w]
                rfl
               refine pure_ (i := 5) (N := some 42) (v := ?_) (a' := ?_) #[true, true, true, true, true, true, false, false, false, false, false] rfl rfl (any_of HT_.out (by kernel_rfl)) (fun _ _ _ h => h) (Or.inl ⟨by rfl, ?_⟩) ?_ ?_
               rotate_left
               ·
                intro w'
                go_simp
                with_reducible rfl
               rotate_left
               ·
                simp only [Act.put, List.setIfInBounds_toArray, List.set_cons_zero, List.set_cons_succ, i64_w, i32_w]
                rfl
               refine pure_ (i := 6) (N := some 48) (v := ?_) (a' := ?_) #[true, true, true, true, true, true, true, false, false, false, false] rfl rfl (any_of HT_.out (by kernel_rfl)) (fun _ _ _ h => h) (Or.inl ⟨by rfl, ?_⟩) ?_ ?_
               rotate_left
               ·
                intro w'
                go_simp
                with_reducible rfl
               rotate_left
               ·
                simp only [Act.put, List.setIfInBounds_toArray, List.set_cons_zero, List.set_cons_succ, i64_w, i32_w]
                rfl
               refine pure_ (i := 7) (N := some 49) (v := ?_) (a' := ?_) #[true, true, true, true, true, true, true, true, false, false, false] rfl rfl (any_of HT_.out (by kernel_rfl)) (fun _ _ _ h => h) (Or.inl ⟨by rfl, ?_⟩) ?_ ?_
               rotate_left
               ·
                intro w'
                go_simp
                with_reducible rfl
               rotate_left
               ·
                simp only [Act.put, List.setIfInBounds_toArray, List.set_cons_zero, List.set_cons_succ, i64_w, i32_w]
                rfl
               refine one_ (i := 8) (N := some 9) #[true, true, true, true, true, true, true, true, true, false, false] rfl rfl (one_of HT_.out (by kernel_rfl)) (by decide) (fun K hK => ?_)
               refine box_step ?hg (N := 9) ?hd (cs := #[.int .u64 0, .int .u64 0]) (t := 24) ?hr ?_; (case hd => rfl); (case hg => rfl); (case hr => first | (go_simp; done) | (go_simp; rfl))
               intro gb147 hg w57 hbox hb
               have n0_ := Aside0.mk (blk_below (bT BK134.out) hb)
               have n1_ := Aside0.mk (blk_below (bT BK135.out) hb)
               have n2_ := Aside0.mk (blk_below (bT BK141.out) hb)
               have n3_ := Aside0.mk (below_step (bW HB.out) hb)
               have n4_ := Aside0.mk (hbox)
               have n5_ := Aside0.mk ((by rw [hg]; exact (below_size (bW HB.out)) : w.heap.size ≤ gb147))
               have n6_ := Aside0.mk ((by rw [hg]; exact (below_size (bW HB.out)) : w.heap.size ≤ gb147))
               have n7_ := Aside0.mk ((by rw [hg]; exact Nat.ne_of_lt (blk_lt (bT BK134.out)) : gb134 ≠ gb147))
               have n8_ := Aside0.mk ((by rw [hg]; exact Nat.ne_of_gt (blk_lt (bT BK134.out)) : gb147 ≠ gb134))
               have n9_ := Aside0.mk ((by rw [hg]; exact Nat.ne_of_lt (blk_lt (bT BK135.out)) : gb135 ≠ gb147))
               have n10_ := Aside0.mk ((by rw [hg]; exact Nat.ne_of_gt (blk_lt (bT BK135.out)) : gb147 ≠ gb135))
               have n11_ := Aside0.mk ((by rw [hg]; exact Nat.ne_of_lt (blk_lt (bT BK141.out)) : gb141 ≠ gb147))
               have n12_ := Aside0.mk ((by rw [hg]; exact Nat.ne_of_gt (blk_lt (bT BK141.out)) : gb147 ≠ gb141))
               clear BK134 BK135 BK141 HB
               have BK134 := n0_
               have BK135 := n1_
               have BK141 := n2_
               have HB := n3_
               have BK147 := n4_
               have GW147 := n5_
               have GE147 := n6_
               have NB134_147 := n7_
               have NB147_134 := n8_
               have NB135_147 := n9_
               have NB147_135 := n10_
               have NB141_147 := n11_
               have NB147_141 := n12_
               clear n0_ n1_ n2_ n3_ n4_ n5_ n6_ n7_ n8_ n9_ n10_ n11_ n12_ hb hbox hg
               refine hK.out _ _ ⟨(blk_cell BK141.out 0).trans rfl, (blk_cell BK141.out 1).trans rfl⟩ (fun hHeld => ?_)
               clear hK K
               refine norm_ (a' := ?_) ?_ ?_
               rotate_left
               ·
                show Act.put _ (some 9) _ = _
                simp only [Act.put, List.setIfInBounds_toArray, List.set_cons_zero, List.set_cons_succ, i64_w, i32_w]
                rfl
               exact norm_ (by simp only [putAll, Act.put, List.setIfInBounds_toArray, List.set_cons_zero, List.set_cons_succ]) (hCont (gb147) _ ⟨hHeld, (bT BK134.out), (bT BK135.out), (bT BK141.out), (bT BK147.out), GW147.out, GE147.out, NB134_147.out, NB147_134.out, NB135_147.out, NB147_135.out, NB141_147.out, NB147_141.out, (bW HB.out)⟩)
              ·
               skip
               refine box_step ?hg (N := 9) ?hd (cs := #[.int .u64 0, .int .u64 0]) (t := 24) ?hr ?_; (case hd => rfl); (case hg => rfl); (case hr => first | (go_simp; done) | (go_simp; rfl))
               intro gb147 hg w56 hbox hb
               have n0_ := Aside0.mk (blk_below (bT BK134.out) hb)
               have n1_ := Aside0.mk (blk_below (bT BK135.out) hb)
               have n2_ := Aside0.mk (blk_below (bT BK141.out) hb)
               have n3_ := Aside0.mk (below_step (bW HB.out) hb)
               have n4_ := Aside0.mk (hbox)
               have n5_ := Aside0.mk ((by rw [hg]; exact (below_size (bW HB.out)) : w.heap.size ≤ gb147))
               have n6_ := Aside0.mk ((by rw [hg]; exact (below_size (bW HB.out)) : w.heap.size ≤ gb147))
               have n7_ := Aside0.mk ((by rw [hg]; exact Nat.ne_of_lt (blk_lt (bT BK134.out)) : gb134 ≠ gb147))
               have n8_ := Aside0.mk ((by rw [hg]; exact Nat.ne_of_gt (blk_lt (bT BK134.out)) : gb147 ≠ gb134))
               have n9_ := Aside0.mk ((by rw [hg]; exact Nat.ne_of_lt (blk_lt (bT BK135.out)) : gb135 ≠ gb147))
               have n10_ := Aside0.mk ((by rw [hg]; exact Nat.ne_of_gt (blk_lt (bT BK135.out)) : gb147 ≠ gb135))
               have n11_ := Aside0.mk ((by rw [hg]; exact Nat.ne_of_lt (blk_lt (bT BK141.out)) : gb141 ≠ gb147))
               have n12_ := Aside0.mk ((by rw [hg]; exact Nat.ne_of_gt (blk_lt (bT BK141.out)) : gb147 ≠ gb141))
               clear BK134 BK135 BK141 HB
               have BK134 := n0_
               have BK135 := n1_
               have BK141 := n2_
               have HB := n3_
               have BK147 := n4_
               have GW147 := n5_
               have GE147 := n6_
               have NB134_147 := n7_
               have NB147_134 := n8_
               have NB135_147 := n9_
               have NB147_135 := n10_
               have NB141_147 := n11_
               have NB147_141 := n12_
               clear n0_ n1_ n2_ n3_ n4_ n5_ n6_ n7_ n8_ n9_ n10_ n11_ n12_ hb hbox hg
               refine hK.out _ _ ⟨(blk_cell BK141.out 0).trans rfl, (blk_cell BK141.out 1).trans rfl⟩ (fun hHeld => ?_)
               clear hK K
               refine norm_ (a' := ?_) ?_ ?_
               rotate_left
               ·
                show Act.put _ (some 9) _ = _
                simp only [Act.put, List.setIfInBounds_toArray, List.set_cons_zero, List.set_cons_succ, i64_w, i32_w]
                rfl
               refine one_ (i := 4) (N := some 47) #[true, true, true, true, true, false, false, false, true, false, false] rfl rfl (one_of HT_.out (by kernel_rfl)) (by decide) (fun K hK => ?_)
               refine goes_ Try.func16 (by kernel_rfl) rfl #[.agg #[.int .u64 t138, .int .u64 t139], .agg #[.int .u64 t142, .int .u64 t143]] (by rfl) rfl rfl (by (try simp only [List.map_toArray, List.map_cons, List.map_nil]); first | done | rfl | (simp only [List.length_drop, List.length_take]; rfl)) ?_
               with_reducible refine (wide_Add.calls t138 t139 t142 t143 t144 t145 false _ A21.out).mono ?_
               rintro e w57 ⟨rfl, hb⟩
               refine ⟨_, rfl, ?_⟩
               have n0_ := Aside0.mk (blk_below (bT BK134.out) hb)
               have n1_ := Aside0.mk (blk_below (bT BK135.out) hb)
               have n2_ := Aside0.mk (blk_below (bT BK141.out) hb)
               have n3_ := Aside0.mk (blk_below (bT BK147.out) hb)
               have n4_ := Aside0.mk (below_step (bW HB.out) hb)
               clear BK134 BK135 BK141 BK147 HB
               have BK134 := n0_
               have BK135 := n1_
               have BK141 := n2_
               have BK147 := n3_
               have HB := n4_
               clear n0_ n1_ n2_ n3_ n4_
               (try clear hb)
               (try clear hb2)
               (try clear hk)
               (try clear hi)
               refine hK.out _ _ ⟨(blk_cell BK141.out 0).trans rfl, (blk_cell BK141.out 1).trans rfl⟩ (fun hHeld => ?_)
               clear hK K
               refine norm_ (a' := ?_) ?_ ?_
               rotate_left
               ·
                show Act.put _ (some 47) _ = _
                simp only [Act.put, List.setIfInBounds_toArray, List.set_cons_zero, List.set_cons_succ, i64_w, i32_w]
                rfl
               refine pure_ (i := 5) (N := some 42) (v := ?_) (a' := ?_) #[true, true, true, true, true, true, false, false, true, false, false] rfl rfl (any_of HT_.out (by kernel_rfl)) (fun _ _ _ h => h) (Or.inl ⟨by rfl, ?_⟩) ?_ ?_
               rotate_left
               ·
                intro w'
                go_simp
                with_reducible rfl
               rotate_left
               ·
                simp only [Act.put, List.setIfInBounds_toArray, List.set_cons_zero, List.set_cons_succ, i64_w, i32_w]
                rfl
               refine pure_ (i := 6) (N := some 48) (v := ?_) (a' := ?_) #[true, true, true, true, true, true, true, false, true, false, false] rfl rfl (any_of HT_.out (by kernel_rfl)) (fun _ _ _ h => h) (Or.inl ⟨by rfl, ?_⟩) ?_ ?_
               rotate_left
               ·
                intro w'
                go_simp
                with_reducible rfl
               rotate_left
               ·
                simp only [Act.put, List.setIfInBounds_toArray, List.set_cons_zero, List.set_cons_succ, i64_w, i32_w]
                rfl
               refine pure_ (i := 7) (N := some 49) (v := ?_) (a' := ?_) #[true, true, true, true, true, true, true, true, true, false, false] rfl rfl (any_of HT_.out (by kernel_rfl)) (fun _ _ _ h => h) (Or.inl ⟨by rfl, ?_⟩) ?_ ?_
               rotate_left
               ·
                intro w'
                go_simp
                with_reducible rfl
               rotate_left
               ·
                simp only [Act.put, List.setIfInBounds_toArray, List.set_cons_zero, List.set_cons_succ, i64_w, i32_w]
                rfl
               exact norm_ (by simp only [putAll, Act.put, List.setIfInBounds_toArray, List.set_cons_zero, List.set_cons_succ]) (hCont (gb147) _ ⟨hHeld, (bT BK134.out), (bT BK135.out), (bT BK141.out), (bT BK147.out), GW147.out, GE147.out, NB134_147.out, NB147_134.out, NB135_147.out, NB147_135.out, NB141_147.out, NB147_141.out, (bW HB.out)⟩)
             ·
              skip
              refine box_step ?hg (N := 9) ?hd (cs := #[.int .u64 0, .int .u64 0]) (t := 24) ?hr ?_; (case hd => rfl); (case hg => rfl); (case hr => first | (go_simp; done) | (go_simp; rfl))
              intro gb147 hg w55 hbox hb
              have n0_ := Aside0.mk (blk_below (bT BK134.out) hb)
              have n1_ := Aside0.mk (blk_below (bT BK135.out) hb)
              have n2_ := Aside0.mk (blk_below (bT BK141.out) hb)
              have n3_ := Aside0.mk (below_step (bW HB.out) hb)
              have n4_ := Aside0.mk (hbox)
              have n5_ := Aside0.mk ((by rw [hg]; exact (below_size (bW HB.out)) : w.heap.size ≤ gb147))
              have n6_ := Aside0.mk ((by rw [hg]; exact (below_size (bW HB.out)) : w.heap.size ≤ gb147))
              have n7_ := Aside0.mk ((by rw [hg]; exact Nat.ne_of_lt (blk_lt (bT BK134.out)) : gb134 ≠ gb147))
              have n8_ := Aside0.mk ((by rw [hg]; exact Nat.ne_of_gt (blk_lt (bT BK134.out)) : gb147 ≠ gb134))
              have n9_ := Aside0.mk ((by rw [hg]; exact Nat.ne_of_lt (blk_lt (bT BK135.out)) : gb135 ≠ gb147))
              have n10_ := Aside0.mk ((by rw [hg]; exact Nat.ne_of_gt (blk_lt (bT BK135.out)) : gb147 ≠ gb135))
              have n11_ := Aside0.mk ((by rw [hg]; exact Nat.ne_of_lt (blk_lt (bT BK141.out)) : gb141 ≠ gb147))
              have n12_ := Aside0.mk ((by rw [hg]; exact Nat.ne_of_gt (blk_lt (bT BK141.out)) : gb147 ≠ gb141))
              clear BK134 BK135 BK141 HB
              have BK134 := n0_
              have BK135 := n1_
              have BK141 := n2_
              have HB := n3_
              have BK147 := n4_
              have GW147 := n5_
              have GE147 := n6_
              have NB134_147 := n7_
              have NB147_134 := n8_
              have NB135_147 := n9_
              have NB147_135 := n10_
              have NB141_147 := n11_
              have NB147_141 := n12_
              clear n0_ n1_ n2_ n3_ n4_ n5_ n6_ n7_ n8_ n9_ n10_ n11_ n12_ hb hbox hg
              refine hK.out _ _ ⟨(blk_cell BK141.out 0).trans rfl, (blk_cell BK141.out 1).trans rfl⟩ (fun hHeld => ?_)
              clear hK K
              refine norm_ (a' := ?_) ?_ ?_
              rotate_left
              ·
               show Act.put _ (some 9) _ = _
               simp only [Act.put, List.setIfInBounds_toArray, List.set_cons_zero, List.set_cons_succ, i64_w, i32_w]
               rfl
              refine one_ (i := 3) (N := some 46) #[true, true, true, true, false, false, false, false, true, false, false] rfl rfl (one_of HT_.out (by kernel_rfl)) (by decide) (fun K hK => ?_)
              refine goes_ Try.func18 (by kernel_rfl) rfl #[.int .u64 (((bt a0 x26_2) - 48) % 256)] (by rfl) rfl rfl (by (try simp only [List.map_toArray, List.map_cons, List.map_nil]); first | done | rfl | (simp [Act.eval]; rw [D.wrapE]; omega)) ?_
              with_reducible refine (wide_Of.calls (((bt a0 x26_2) - 48) % 256) t142 t143 _ A20.out).mono ?_
              rintro e w56 ⟨rfl, hb⟩
              refine ⟨_, rfl, ?_⟩
              have n0_ := Aside0.mk (blk_below (bT BK134.out) hb)
              have n1_ := Aside0.mk (blk_below (bT BK135.out) hb)
              have n2_ := Aside0.mk (blk_below (bT BK141.out) hb)
              have n3_ := Aside0.mk (blk_below (bT BK147.out) hb)
              have n4_ := Aside0.mk (below_step (bW HB.out) hb)
              clear BK134 BK135 BK141 BK147 HB
              have BK134 := n0_
              have BK135 := n1_
              have BK141 := n2_
              have BK147 := n3_
              have HB := n4_
              clear n0_ n1_ n2_ n3_ n4_
              (try clear hb)
              (try clear hb2)
              (try clear hk)
              (try clear hi)
              refine hK.out _ _ ⟨(blk_cell BK141.out 0).trans rfl, (blk_cell BK141.out 1).trans rfl⟩ (fun hHeld => ?_)
              clear hK K
              refine norm_ (a' := ?_) ?_ ?_
              rotate_left
              ·
               show Act.put _ (some 46) _ = _
               simp only [Act.put, List.setIfInBounds_toArray, List.set_cons_zero, List.set_cons_succ, i64_w, i32_w]
               rfl
              refine one_ (i := 4) (N := some 47) #[true, true, true, true, true, false, false, false, true, false, false] rfl rfl (one_of HT_.out (by kernel_rfl)) (by decide) (fun K hK => ?_)
              refine goes_ Try.func16 (by kernel_rfl) rfl #[.agg #[.int .u64 t138, .int .u64 t139], .agg #[.int .u64 t142, .int .u64 t143]] (by rfl) rfl rfl (by (try simp only [List.map_toArray, List.map_cons, List.map_nil]); first | done | rfl | (simp only [List.length_drop, List.length_take]; rfl)) ?_
              with_reducible refine (wide_Add.calls t138 t139 t142 t143 t144 t145 false _ A21.out).mono ?_
              rintro e w57 ⟨rfl, hb⟩
              refine ⟨_, rfl, ?_⟩
              have n0_ := Aside0.mk (blk_below (bT BK134.out) hb)
              have n1_ := Aside0.mk (blk_below (bT BK135.out) hb)
              have n2_ := Aside0.mk (blk_below (bT BK141.out) hb)
              have n3_ := Aside0.mk (blk_below (bT BK147.out) hb)
              have n4_ := Aside0.mk (below_step (bW HB.out) hb)
              clear BK134 BK135 BK141 BK147 HB
              have BK134 := n0_
              have BK135 := n1_
              have BK141 := n2_
              have BK147 := n3_
              have HB := n4_
              clear n0_ n1_ n2_ n3_ n4_
              (try clear hb)
              (try clear hb2)
              (try clear hk)
              (try clear hi)
              refine hK.out _ _ ⟨(blk_cell BK141.out 0).trans rfl, (blk_cell BK141.out 1).trans rfl⟩ (fun hHeld => ?_)
              clear hK K
              refine norm_ (a' := ?_) ?_ ?_
              rotate_left
              ·
               show Act.put _ (some 47) _ = _
               simp only [Act.put, List.setIfInBounds_toArray, List.set_cons_zero, List.set_cons_succ, i64_w, i32_w]
               rfl
              refine pure_ (i := 5) (N := some 42) (v := ?_) (a' := ?_) #[true, true, true, true, true, true, false, false, true, false, false] rfl rfl (any_of HT_.out (by kernel_rfl)) (fun _ _ _ h => h) (Or.inl ⟨by rfl, ?_⟩) ?_ ?_
              rotate_left
              ·
               intro w'
               go_simp
               with_reducible rfl
              rotate_left
              ·
               simp only [Act.put, List.setIfInBounds_toArray, List.set_cons_zero, List.set_cons_succ, i64_w, i32_w]
               rfl
              refine pure_ (i := 6) (N := some 48) (v := ?_) (a' := ?_) #[true, true, true, true, true, true, true, false, true, false, false] rfl rfl (any_of HT_.out (by kernel_rfl)) (fun _ _ _ h => h) (Or.inl ⟨by rfl, ?_⟩) ?_ ?_
              rotate_left
              ·
               intro w'
               go_simp
               with_reducible rfl
              rotate_left
              ·
               simp only [Act.put, List.setIfInBounds_toArray, List.set_cons_zero, List.set_cons_succ, i64_w, i32_w]
               rfl
              refine pure_ (i := 7) (N := some 49) (v := ?_) (a' := ?_) #[true, true, true, true, true, true, true, true, true, false, false] rfl rfl (any_of HT_.out (by kernel_rfl)) (fun _ _ _ h => h) (Or.inl ⟨by rfl, ?_⟩) ?_ ?_
              rotate_left
              ·
               intro w'
               go_simp
               with_reducible rfl
              rotate_left
              ·
               simp only [Act.put, List.setIfInBounds_toArray, List.set_cons_zero, List.set_cons_succ, i64_w, i32_w]
               rfl
              exact norm_ (by simp only [putAll, Act.put, List.setIfInBounds_toArray, List.set_cons_zero, List.set_cons_succ]) (hCont (gb147) _ ⟨hHeld, (bT BK134.out), (bT BK135.out), (bT BK141.out), (bT BK147.out), GW147.out, GE147.out, NB134_147.out, NB147_134.out, NB135_147.out, NB147_135.out, NB141_147.out, NB147_141.out, (bW HB.out)⟩)
            rintro gb147 w58 ⟨hS_, h0_, h1_, h2_, h3_, h4_, h5_, h6_, h7_, h8_, h9_, h10_, h11_, h12_⟩
            have n0_ : Aside0 (w58.heap[gb134]? = some (.cells #[.int .u64 x135000_2, .int .u64 x135001_2] 24 (0, 0))) := ⟨h0_⟩
            have n1_ : Aside0 (w58.heap[gb135]? = some (.cells #[.int .u64 x136000_2, .int .u64 x136001_2] 24 (0, 0))) := ⟨h1_⟩
            have n2_ : Aside0 (w58.heap[gb141]? = some (.cells #[.int .u64 t138, .int .u64 t139] 24 (0, 0))) := ⟨h2_⟩
            have n3_ : Aside0 (w58.heap[gb147]? = some (.cells #[.int .u64 0, .int .u64 0] 24 (0, 0))) := ⟨h3_⟩
            have n4_ : Aside0 (w.heap.size ≤ gb147) := ⟨h4_⟩
            have n5_ : Aside0 (w.heap.size ≤ gb147) := ⟨h5_⟩
            have n6_ : Aside0 (gb134 ≠ gb147) := ⟨h6_⟩
            have n7_ : Aside0 (gb147 ≠ gb134) := ⟨h7_⟩
            have n8_ : Aside0 (gb135 ≠ gb147) := ⟨h8_⟩
            have n9_ : Aside0 (gb147 ≠ gb135) := ⟨h9_⟩
            have n10_ : Aside0 (gb141 ≠ gb147) := ⟨h10_⟩
            have n11_ : Aside0 (gb147 ≠ gb141) := ⟨h11_⟩
            have n12_ : Aside0 (Below w.heap.size w w58) := ⟨h12_⟩
            clear BK134 BK135 BK141 HB h0_ h1_ h2_ h3_ h4_ h5_ h6_ h7_ h8_ h9_ h10_ h11_ h12_
            have BK134 := n0_
            have BK135 := n1_
            have BK141 := n2_
            have BK147 := n3_
            have GW147 := n4_
            have GE147 := n5_
            have NB134_147 := n6_
            have NB147_134 := n7_
            have NB135_147 := n8_
            have NB147_135 := n9_
            have NB141_147 := n10_
            have NB147_141 := n11_
            have HB := n12_
            clear n0_ n1_ n2_ n3_ n4_ n5_ n6_ n7_ n8_ n9_ n10_ n11_ n12_
            have hHeld : w58.cell? ⟨gb141, 0, none⟩ = some (.int .u64 t138) ∧ w58.cell? ⟨gb141, 1, none⟩ = some (.int .u64 t139) := hS_
            refine norm_ (a' := ?_) ?_ ?_
            rotate_left
            ·
             simp only [putAll, Act.put, List.setIfInBounds_toArray, List.set_cons_zero, List.set_cons_succ]
             rfl
            refine one_ (i := 9) (N := none) #[true, true, true, true, true, true, true, true, true, true, false] rfl rfl (one_of HT_.out (by kernel_rfl)) (by decide) (fun K hK => ?_)
            have hs59 : w58.cell? ⟨gb147, 0, none⟩ = some (.int .u64 0) := (blk_cell BK147.out 0).trans rfl
            have hfs59 := blk_frozen BK147.out 0
            have hns59_0 := NB134_147.out
            have hns59_1 := NB135_147.out
            have hns59_2 := NB141_147.out
            have hms59_0 := NB147_134.out
            have hms59_1 := NB147_135.out
            have hms59_2 := NB147_141.out
            have hs60 : w58.cell? ⟨gb147, 1, none⟩ = some (.int .u64 0) := (blk_cell BK147.out 1).trans rfl
            have hfs60 := blk_frozen BK147.out 1
            have hns60_0 := NB134_147.out
            have hns60_1 := NB135_147.out
            have hns60_2 := NB141_147.out
            have hms60_0 := NB147_134.out
            have hms60_1 := NB147_135.out
            have hms60_2 := NB147_141.out
            refine skip_ (w1 := ?_) (by rfl) rfl ?_ ?_
            rotate_left
            ·
             go_simp
             rfl
            refine hK.out _ _ ⟨((cell_far (p := ⟨gb147, _, none⟩) NB141_147.out _).trans (((cell_far (p := ⟨gb147, _, none⟩) NB141_147.out _).trans (hHeld.1)))), ((cell_far (p := ⟨gb147, _, none⟩) NB141_147.out _).trans (((cell_far (p := ⟨gb147, _, none⟩) NB141_147.out _).trans (hHeld.2))))⟩ (fun hHeld => ?_)
            clear hK K
            refine pure_ (i := 10) (N := some 10) (v := ?_) (a' := ?_) #[true, true, true, true, true, true, true, true, true, true, true] rfl rfl (any_of HT_.out (by kernel_rfl)) (fun _ _ _ h => h) (Or.inl ⟨by rfl, ?_⟩) ?_ ?_
            rotate_left
            ·
             intro w'
             go_simp
             with_reducible rfl
            rotate_left
            ·
             simp only [Act.put, List.setIfInBounds_toArray, List.set_cons_zero, List.set_cons_succ, i64_w, i32_w]
             rfl
            refine done_ (done_of HT_.out (by kernel_rfl)) ?_
            have hnb61 := NB134_135.out
            have hnc61 := NB135_134.out
            have hnb62 := NB134_141.out
            have hnc62 := NB141_134.out
            have hnb63 := NB134_147.out
            have hnc63 := NB147_134.out
            have hcz64_0 : w58.cell? ⟨gb134, 0, none⟩ = some (.int .u64 x135000_2) := (blk_cell BK134.out 0).trans rfl
            have hcz64_1 : w58.cell? ⟨gb134, 1, none⟩ = some (.int .u64 x135001_2) := (blk_cell BK134.out 1).trans rfl
            have hfz64_0 := blk_frozen BK134.out 0
            have hfz64_1 := blk_frozen BK134.out 1
            try go_wp2
            refine bodyPost_ret (results_ct rfl _ _ gb134 24 #[.int .u64 0, .int .u64 0] (0, 0) _ rfl (by (with_reducible repeat (first | refine blk_drewN ?_ _ | refine blk_drew ?_ | refine blk_alloc ?_ _)); refine blk_put (cs := #[.int .u64 0, .int .u64 x135001_2]) ?_ 1 _ rfl; (with_reducible repeat (first | refine blk_drewN ?_ _ | refine blk_drew ?_ | refine blk_alloc ?_ _)); refine blk_put (cs := #[.int .u64 x135000_2, .int .u64 x135001_2]) ?_ 0 _ rfl; (with_reducible repeat (first | refine blk_drewN ?_ _ | refine blk_drew ?_ | refine blk_alloc ?_ _)); refine blk_far ?_ NB134_147.out _; (with_reducible repeat (first | refine blk_drewN ?_ _ | refine blk_drew ?_ | refine blk_alloc ?_ _)); refine blk_far ?_ NB134_147.out _; (with_reducible repeat (first | refine blk_drewN ?_ _ | refine blk_drew ?_ | refine blk_alloc ?_ _)); exact BK134.out) Try.underlying24 rfl (by kernel_rfl)) rfl ?_
            exact ⟨by first | rfl | (simp [errW_none, errW_some] <;> rfl) | (simp [*, errW_none, errW_some] <;> rfl), by repeat (first | (with_reducible first | exact HB.out | apply below_alloc | apply pw_below_drewN | apply below_drew1 | refine below_set ?_ GE134.out | refine below_set ?_ GE135.out | refine below_set ?_ GE141.out | refine below_set ?_ GE147.out) | exact HB.out)⟩
          ·
           replace c22 := Bool.eq_false_iff.mpr c22
           subst c22
           have H1 : (some (0, 0, false)) = some (r1, r2, r3) := by rw [if_neg (show ¬ (false = true) by decide)] at H; exact H
           clear H
           have H := H1
           clear H1
           simp only [Option.some.injEq, Prod.mk.injEq] at H
           obtain ⟨rfl, rfl, rfl⟩ := H
           have p14 : 0 ≤ (x26_2 : Int) := of_decide_eq_true (by first | (with_reducible assumption) | assumption)
           have q14 : x26_2 < (a0.size : Int) := of_decide_eq_true (by first | (with_reducible assumption) | assumption)
           have hx14 := bt_at a0 x26_2
           replace p14 := eq_true p14
           replace q14 := eq_true q14
           try go_wp2
           have n0_ := Aside0.mk (blk_drew BK134.out)
           have n1_ := Aside0.mk (blk_drew BK135.out)
           have n2_ := Aside0.mk (below_drew1 HB.out)
           clear BK134 BK135 HB
           have BK134 := n0_
           have BK135 := n1_
           have HB := n2_
           clear n0_ n1_ n2_
           refine start_ (n := 9) (S := fun w' => w'.cell? ⟨gb135, 0, none⟩ = some (.int .u64 x136000_2) ∧ w'.cell? ⟨gb135, 1, none⟩ = some (.int .u64 x136001_2)) (ds := []) #[false, false, false, false, false, false, false, false, false] (by kernel_rfl) rfl rfl ⟨(blk_cell BK135.out 0).trans rfl, (blk_cell BK135.out 1).trans rfl⟩ (fun hHeld => ?_); refine with_tabW wide_Read.tab10 wide_Read.bits10 (fun HT_ HW_ => ?_)
           generalize wr.drew = w65 at BK134 BK135 HB hHeld ⊢
           refine take_ (i := 0) (N := some 37) (v := ?_) (a' := ?_) #[true, false, false, false, false, false, false, false, false] rfl rfl (take_ofW HT_.out HW_.out (by kernel_rfl)) (fun _ _ _ h => h) (Or.inl ⟨by rfl, ?_⟩) hHeld ?_ ?_
           rotate_left
           ·
            rintro w' ⟨s0, s1⟩
            go_simp
            with_reducible rfl
           rotate_left
           ·
            simp only [Act.put, List.setIfInBounds_toArray, List.set_cons_zero, List.set_cons_succ, i64_w, i32_w]
            rfl
           refine join_ (σ := Nat) 2 #[true, true, true, true, true, true, true, false, false] (fun s_ => [(38, .agg #[.int .u64 t136, .int .u64 t137]), (39, .tuple #[.agg #[.int .u64 t138, .int .u64 t139], .bool false]), (7, .pointer (some ⟨s_, 0, none⟩)), (36, .tuple #[.agg #[.int .u64 t138, .int .u64 t139], .bool false]), (40, .agg #[.int .u64 t138, .int .u64 t139]), (41, .bool false)]) (fun s_ w' => (w'.cell? ⟨gb135, 0, none⟩ = some (.int .u64 x136000_2) ∧ w'.cell? ⟨gb135, 1, none⟩ = some (.int .u64 x136001_2)) ∧ (w'.heap[gb134]? = some (.cells #[.int .u64 x135000_2, .int .u64 x135001_2] 24 (0, 0))) ∧ (w'.heap[gb135]? = some (.cells #[.int .u64 x136000_2, .int .u64 x136001_2] 24 (0, 0))) ∧ (w'.heap[s_]? = some (.cells #[.int .u64 0, .int .u64 0] 24 (0, 0))) ∧ (w.heap.size ≤ s_) ∧ (w.heap.size ≤ s_) ∧ (gb134 ≠ s_) ∧ (s_ ≠ gb134) ∧ (gb135 ≠ s_) ∧ (s_ ≠ gb135) ∧ (Below w.heap.size w w')) ?_ ?_
           rotate_left
           ·
            intro hCont
            refine two_ (i := 1) (j := 6) (Ni := some 38) (Nj := some 7) #[true, true, false, false, false, false, false, false, false] #[true, false, false, false, false, false, true, false, false] rfl rfl rfl rfl (two_of HT_.out (by kernel_rfl)) (by decide) (by decide) (fun K hK => ?_) (fun K hK => ?_)
            ·
             skip
             refine goes_ Try.func18 (by kernel_rfl) rfl #[.int .u64 10] (by rfl) rfl rfl (by (try simp only [List.map_toArray, List.map_cons, List.map_nil]); first | done | rfl | (simp only [List.length_drop, List.length_take]; rfl)) ?_
             with_reducible refine (wide_Of.calls 10 t136 t137 _ A18.out).mono ?_
             rintro e w66 ⟨rfl, hb⟩
             refine ⟨_, rfl, ?_⟩
             have n0_ := Aside0.mk (blk_below (bT BK134.out) hb)
             have n1_ := Aside0.mk (blk_below (bT BK135.out) hb)
             have n2_ := Aside0.mk (below_step (bW HB.out) hb)
             clear BK134 BK135 HB
             have BK134 := n0_
             have BK135 := n1_
             have HB := n2_
             clear n0_ n1_ n2_
             (try clear hb)
             (try clear hb2)
             (try clear hk)
             (try clear hi)
             refine hK.out _ _ ⟨(blk_cell BK135.out 0).trans rfl, (blk_cell BK135.out 1).trans rfl⟩ (fun hHeld => ?_)
             clear hK K
             refine norm_ (a' := ?_) ?_ ?_
             rotate_left
             ·
              show Act.put _ (some 38) _ = _
              simp only [Act.put, List.setIfInBounds_toArray, List.set_cons_zero, List.set_cons_succ, i64_w, i32_w]
              rfl
             refine two_ (i := 2) (j := 6) (Ni := some 39) (Nj := some 7) #[true, true, true, false, false, false, false, false, false] #[true, true, false, false, false, false, true, false, false] rfl rfl rfl rfl (two_of HT_.out (by kernel_rfl)) (by decide) (by decide) (fun K hK => ?_) (fun K hK => ?_)
             ·
              skip
              refine goes_ Try.func17 (by kernel_rfl) rfl #[.agg #[.int .u64 x136000_2, .int .u64 x136001_2], .agg #[.int .u64 t136, .int .u64 t137]] (by rfl) rfl rfl (by (try simp only [List.map_toArray, List.map_cons, List.map_nil]); first | done | rfl | (simp only [List.length_drop, List.length_take]; rfl)) ?_
              with_reducible refine (wide_Mul.calls x136000_2 x136001_2 t136 t137 t138 t139 false _ A19.out).mono ?_
              rintro e w67 ⟨rfl, hb⟩
              refine ⟨_, rfl, ?_⟩
              have n0_ := Aside0.mk (blk_below (bT BK134.out) hb)
              have n1_ := Aside0.mk (blk_below (bT BK135.out) hb)
              have n2_ := Aside0.mk (below_step (bW HB.out) hb)
              clear BK134 BK135 HB
              have BK134 := n0_
              have BK135 := n1_
              have HB := n2_
              clear n0_ n1_ n2_
              (try clear hb)
              (try clear hb2)
              (try clear hk)
              (try clear hi)
              refine hK.out _ _ ⟨(blk_cell BK135.out 0).trans rfl, (blk_cell BK135.out 1).trans rfl⟩ (fun hHeld => ?_)
              clear hK K
              refine norm_ (a' := ?_) ?_ ?_
              rotate_left
              ·
               show Act.put _ (some 39) _ = _
               simp only [Act.put, List.setIfInBounds_toArray, List.set_cons_zero, List.set_cons_succ, i64_w, i32_w]
               rfl
              refine pure_ (i := 3) (N := some 36) (v := ?_) (a' := ?_) #[true, true, true, true, false, false, false, false, false] rfl rfl (any_of HT_.out (by kernel_rfl)) (fun _ _ _ h => h) (Or.inl ⟨by rfl, ?_⟩) ?_ ?_
              rotate_left
              ·
               intro w'
               go_simp
               with_reducible rfl
              rotate_left
              ·
               simp only [Act.put, List.setIfInBounds_toArray, List.set_cons_zero, List.set_cons_succ, i64_w, i32_w]
               rfl
              refine pure_ (i := 4) (N := some 40) (v := ?_) (a' := ?_) #[true, true, true, true, true, false, false, false, false] rfl rfl (any_of HT_.out (by kernel_rfl)) (fun _ _ _ h => h) (Or.inl ⟨by rfl, ?_⟩) ?_ ?_
              rotate_left
              ·
               intro w'
               go_simp
               with_reducible rfl
              rotate_left
              ·
               simp only [Act.put, List.setIfInBounds_toArray, List.set_cons_zero, List.set_cons_succ, i64_w, i32_w]
               rfl
              refine pure_ (i := 5) (N := some 41) (v := ?_) (a' := ?_) #[true, true, true, true, true, true, false, false, false] rfl rfl (any_of HT_.out (by kernel_rfl)) (fun _ _ _ h => h) (Or.inl ⟨by rfl, ?_⟩) ?_ ?_
              rotate_left
              ·
               intro w'
               go_simp
               with_reducible rfl
              rotate_left
              ·
               simp only [Act.put, List.setIfInBounds_toArray, List.set_cons_zero, List.set_cons_succ, i64_w, i32_w]
               rfl
              refine one_ (i := 6) (N := some 7) #[true, true, true, true, true, true, true, false, false] rfl rfl (one_of HT_.out (by kernel_rfl)) (by decide) (fun K hK => ?_)
              refine box_step ?hg (N := 7) ?hd (cs := #[.int .u64 0, .int .u64 0]) (t := 24) ?hr ?_; (case hd => rfl); (case hg => rfl); (case hr => first | (go_simp; done) | (go_simp; rfl))
              intro gb141 hg w68 hbox hb
              have n0_ := Aside0.mk (blk_below (bT BK134.out) hb)
              have n1_ := Aside0.mk (blk_below (bT BK135.out) hb)
              have n2_ := Aside0.mk (below_step (bW HB.out) hb)
              have n3_ := Aside0.mk (hbox)
              have n4_ := Aside0.mk ((by rw [hg]; exact (below_size (bW HB.out)) : w.heap.size ≤ gb141))
              have n5_ := Aside0.mk ((by rw [hg]; exact (below_size (bW HB.out)) : w.heap.size ≤ gb141))
              have n6_ := Aside0.mk ((by rw [hg]; exact Nat.ne_of_lt (blk_lt (bT BK134.out)) : gb134 ≠ gb141))
              have n7_ := Aside0.mk ((by rw [hg]; exact Nat.ne_of_gt (blk_lt (bT BK134.out)) : gb141 ≠ gb134))
              have n8_ := Aside0.mk ((by rw [hg]; exact Nat.ne_of_lt (blk_lt (bT BK135.out)) : gb135 ≠ gb141))
              have n9_ := Aside0.mk ((by rw [hg]; exact Nat.ne_of_gt (blk_lt (bT BK135.out)) : gb141 ≠ gb135))
              clear BK134 BK135 HB
              have BK134 := n0_
              have BK135 := n1_
              have HB := n2_
              have BK141 := n3_
              have GW141 := n4_
              have GE141 := n5_
              have NB134_141 := n6_
              have NB141_134 := n7_
              have NB135_141 := n8_
              have NB141_135 := n9_
              clear n0_ n1_ n2_ n3_ n4_ n5_ n6_ n7_ n8_ n9_ hb hbox hg
              refine hK.out _ _ ⟨(blk_cell BK135.out 0).trans rfl, (blk_cell BK135.out 1).trans rfl⟩ (fun hHeld => ?_)
              clear hK K
              refine norm_ (a' := ?_) ?_ ?_
              rotate_left
              ·
               show Act.put _ (some 7) _ = _
               simp only [Act.put, List.setIfInBounds_toArray, List.set_cons_zero, List.set_cons_succ, i64_w, i32_w]
               rfl
              exact norm_ (by simp only [putAll, Act.put, List.setIfInBounds_toArray, List.set_cons_zero, List.set_cons_succ]) (hCont (gb141) _ ⟨hHeld, (bT BK134.out), (bT BK135.out), (bT BK141.out), GW141.out, GE141.out, NB134_141.out, NB141_134.out, NB135_141.out, NB141_135.out, (bW HB.out)⟩)
             ·
              skip
              refine box_step ?hg (N := 7) ?hd (cs := #[.int .u64 0, .int .u64 0]) (t := 24) ?hr ?_; (case hd => rfl); (case hg => rfl); (case hr => first | (go_simp; done) | (go_simp; rfl))
              intro gb141 hg w67 hbox hb
              have n0_ := Aside0.mk (blk_below (bT BK134.out) hb)
              have n1_ := Aside0.mk (blk_below (bT BK135.out) hb)
              have n2_ := Aside0.mk (below_step (bW HB.out) hb)
              have n3_ := Aside0.mk (hbox)
              have n4_ := Aside0.mk ((by rw [hg]; exact (below_size (bW HB.out)) : w.heap.size ≤ gb141))
              have n5_ := Aside0.mk ((by rw [hg]; exact (below_size (bW HB.out)) : w.heap.size ≤ gb141))
              have n6_ := Aside0.mk ((by rw [hg]; exact Nat.ne_of_lt (blk_lt (bT BK134.out)) : gb134 ≠ gb141))
              have n7_ := Aside0.mk ((by rw [hg]; exact Nat.ne_of_gt (blk_lt (bT BK134.out)) : gb141 ≠ gb134))
              have n8_ := Aside0.mk ((by rw [hg]; exact Nat.ne_of_lt (blk_lt (bT BK135.out)) : gb135 ≠ gb141))
              have n9_ := Aside0.mk ((by rw [hg]; exact Nat.ne_of_gt (blk_lt (bT BK135.out)) : gb141 ≠ gb135))
              clear BK134 BK135 HB
              have BK134 := n0_
              have BK135 := n1_
              have HB := n2_
              have BK141 := n3_
              have GW141 := n4_
              have GE141 := n5_
              have NB134_141 := n6_
              have NB141_134 := n7_
              have NB135_141 := n8_
              have NB141_135 := n9_
              clear n0_ n1_ n2_ n3_ n4_ n5_ n6_ n7_ n8_ n9_ hb hbox hg
              refine hK.out _ _ ⟨(blk_cell BK135.out 0).trans rfl, (blk_cell BK135.out 1).trans rfl⟩ (fun hHeld => ?_)
              clear hK K
              refine norm_ (a' := ?_) ?_ ?_
              rotate_left
              ·
               show Act.put _ (some 7) _ = _
               simp only [Act.put, List.setIfInBounds_toArray, List.set_cons_zero, List.set_cons_succ, i64_w, i32_w]
               rfl
              refine one_ (i := 2) (N := some 39) #[true, true, true, false, false, false, true, false, false] rfl rfl (one_of HT_.out (by kernel_rfl)) (by decide) (fun K hK => ?_)
              refine goes_ Try.func17 (by kernel_rfl) rfl #[.agg #[.int .u64 x136000_2, .int .u64 x136001_2], .agg #[.int .u64 t136, .int .u64 t137]] (by rfl) rfl rfl (by (try simp only [List.map_toArray, List.map_cons, List.map_nil]); first | done | rfl | (simp only [List.length_drop, List.length_take]; rfl)) ?_
              with_reducible refine (wide_Mul.calls x136000_2 x136001_2 t136 t137 t138 t139 false _ A19.out).mono ?_
              rintro e w68 ⟨rfl, hb⟩
              refine ⟨_, rfl, ?_⟩
              have n0_ := Aside0.mk (blk_below (bT BK134.out) hb)
              have n1_ := Aside0.mk (blk_below (bT BK135.out) hb)
              have n2_ := Aside0.mk (blk_below (bT BK141.out) hb)
              have n3_ := Aside0.mk (below_step (bW HB.out) hb)
              clear BK134 BK135 BK141 HB
              have BK134 := n0_
              have BK135 := n1_
              have BK141 := n2_
              have HB := n3_
              clear n0_ n1_ n2_ n3_
              (try clear hb)
              (try clear hb2)
              (try clear hk)
              (try clear hi)
              refine hK.out _ _ ⟨(blk_cell BK135.out 0).trans rfl, (blk_cell BK135.out 1).trans rfl⟩ (fun hHeld => ?_)
              clear hK K
              refine norm_ (a' := ?_) ?_ ?_
              rotate_left
              ·
               show Act.put _ (some 39) _ = _
               simp only [Act.put, List.setIfInBounds_toArray, List.set_cons_zero, List.set_cons_succ, i64_w, i32_w]
               rfl
              refine pure_ (i := 3) (N := some 36) (v := ?_) (a' := ?_) #[true, true, true, true, false, false, true, false, false] rfl rfl (any_of HT_.out (by kernel_rfl)) (fun _ _ _ h => h) (Or.inl ⟨by rfl, ?_⟩) ?_ ?_
              rotate_left
              ·
               intro w'
               go_simp
               with_reducible rfl
              rotate_left
              ·
               simp only [Act.put, List.setIfInBounds_toArray, List.set_cons_zero, List.set_cons_succ, i64_w, i32_w]
               rfl
              refine pure_ (i := 4) (N := some 40) (v := ?_) (a' := ?_) #[true, true, true, true, true, false, true, false, false] rfl rfl (any_of HT_.out (by kernel_rfl)) (fun _ _ _ h => h) (Or.inl ⟨by rfl, ?_⟩) ?_ ?_
              rotate_left
              ·
               intro w'
               go_simp
               with_reducible rfl
              rotate_left
              ·
               simp only [Act.put, List.setIfInBounds_toArray, List.set_cons_zero, List.set_cons_succ, i64_w, i32_w]
               rfl
              refine pure_ (i := 5) (N := some 41) (v := ?_) (a' := ?_) #[true, true, true, true, true, true, true, false, false] rfl rfl (any_of HT_.out (by kernel_rfl)) (fun _ _ _ h => h) (Or.inl ⟨by rfl, ?_⟩) ?_ ?_
              rotate_left
              ·
               intro w'
               go_simp
               with_reducible rfl
              rotate_left
              ·
               simp only [Act.put, List.setIfInBounds_toArray, List.set_cons_zero, List.set_cons_succ, i64_w, i32_w]
               rfl
              exact norm_ (by simp only [putAll, Act.put, List.setIfInBounds_toArray, List.set_cons_zero, List.set_cons_succ]) (hCont (gb141) _ ⟨hHeld, (bT BK134.out), (bT BK135.out), (bT BK141.out), GW141.out, GE141.out, NB134_141.out, NB141_134.out, NB135_141.out, NB141_135.out, (bW HB.out)⟩)
            ·
             skip
             refine box_step ?hg (N := 7) ?hd (cs := #[.int .u64 0, .int .u64 0]) (t := 24) ?hr ?_; (case hd => rfl); (case hg => rfl); (case hr => first | (go_simp; done) | (go_simp; rfl))
             intro gb141 hg w66 hbox hb
             have n0_ := Aside0.mk (blk_below (bT BK134.out) hb)
             have n1_ := Aside0.mk (blk_below (bT BK135.out) hb)
             have n2_ := Aside0.mk (below_step (bW HB.out) hb)
             have n3_ := Aside0.mk (hbox)
             have n4_ := Aside0.mk ((by rw [hg]; exact (below_size (bW HB.out)) : w.heap.size ≤ gb141))
             have n5_ := Aside0.mk ((by rw [hg]; exact (below_size (bW HB.out)) : w.heap.size ≤ gb141))
             have n6_ := Aside0.mk ((by rw [hg]; exact Nat.ne_of_lt (blk_lt (bT BK134.out)) : gb134 ≠ gb141))
             have n7_ := Aside0.mk ((by rw [hg]; exact Nat.ne_of_gt (blk_lt (bT BK134.out)) : gb141 ≠ gb134))
             have n8_ := Aside0.mk ((by rw [hg]; exact Nat.ne_of_lt (blk_lt (bT BK135.out)) : gb135 ≠ gb141))
             have n9_ := Aside0.mk ((by rw [hg]; exact Nat.ne_of_gt (blk_lt (bT BK135.out)) : gb141 ≠ gb135))
             clear BK134 BK135 HB
             have BK134 := n0_
             have BK135 := n1_
             have HB := n2_
             have BK141 := n3_
             have GW141 := n4_
             have GE141 := n5_
             have NB134_141 := n6_
             have NB141_134 := n7_
             have NB135_141 := n8_
             have NB141_135 := n9_
             clear n0_ n1_ n2_ n3_ n4_ n5_ n6_ n7_ n8_ n9_ hb hbox hg
             refine hK.out _ _ ⟨(blk_cell BK135.out 0).trans rfl, (blk_cell BK135.out 1).trans rfl⟩ (fun hHeld => ?_)
             clear hK K
             refine norm_ (a' := ?_) ?_ ?_
             rotate_left
             ·
              show Act.put _ (some 7) _ = _
              simp only [Act.put, List.setIfInBounds_toArray, List.set_cons_zero, List.set_cons_succ, i64_w, i32_w]
              rfl
             refine one_ (i := 1) (N := some 38) #[true, true, false, false, false, false, true, false, false] rfl rfl (one_of HT_.out (by kernel_rfl)) (by decide) (fun K hK => ?_)
             refine goes_ Try.func18 (by kernel_rfl) rfl #[.int .u64 10] (by rfl) rfl rfl (by (try simp only [List.map_toArray, List.map_cons, List.map_nil]); first | done | rfl | (simp only [List.length_drop, List.length_take]; rfl)) ?_
             with_reducible refine (wide_Of.calls 10 t136 t137 _ A18.out).mono ?_
             rintro e w67 ⟨rfl, hb⟩
             refine ⟨_, rfl, ?_⟩
             have n0_ := Aside0.mk (blk_below (bT BK134.out) hb)
             have n1_ := Aside0.mk (blk_below (bT BK135.out) hb)
             have n2_ := Aside0.mk (blk_below (bT BK141.out) hb)
             have n3_ := Aside0.mk (below_step (bW HB.out) hb)
             clear BK134 BK135 BK141 HB
             have BK134 := n0_
             have BK135 := n1_
             have BK141 := n2_
             have HB := n3_
             clear n0_ n1_ n2_ n3_
             (try clear hb)
             (try clear hb2)
             (try clear hk)
             (try clear hi)
             refine hK.out _ _ ⟨(blk_cell BK135.out 0).trans rfl, (blk_cell BK135.out 1).trans rfl⟩ (fun hHeld => ?_)
             clear hK K
             refine norm_ (a' := ?_) ?_ ?_
             rotate_left
             ·
              show Act.put _ (some 38) _ = _
              simp only [Act.put, List.setIfInBounds_toArray, List.set_cons_zero, List.set_cons_succ, i64_w, i32_w]
              rfl
             refine one_ (i := 2) (N := some 39) #[true, true, true, false, false, false, true, false, false] rfl rfl (one_of HT_.out (by kernel_rfl)) (by decide) (fun K hK => ?_)
             refine goes_ Try.func17 (by kernel_rfl) rfl #[.agg #[.int .u64 x136000_2, .int .u64 x136001_2], .agg #[.int .u64 t136, .int .u64 t137]] (by rfl) rfl rfl (by (try simp only [List.map_toArray, List.map_cons, List.map_nil]); first | done | rfl | (simp only [List.length_drop, List.length_take]; rfl)) ?_
             with_reducible refine (wide_Mul.calls x136000_2 x136001_2 t136 t137 t138 t139 false _ A19.out).mono ?_
             rintro e w68 ⟨rfl, hb⟩
             refine ⟨_, rfl, ?_⟩
             have n0_ := Aside0.mk (blk_below (bT BK134.out) hb)
             have n1_ := Aside0.mk (blk_below (bT BK135.out) hb)
             have n2_ := Aside0.mk (blk_below (bT BK141.out) hb)
             have n3_ := Aside0.mk (below_step (bW HB.out) hb)
             clear BK134 BK135 BK141 HB
             have BK134 := n0_
             have BK135 := n1_
             have BK141 := n2_
             have HB := n3_
             clear n0_ n1_ n2_ n3_
             (try clear hb)
             (try clear hb2)
             (try clear hk)
             (try clear hi)
             refine hK.out _ _ ⟨(blk_cell BK135.out 0).trans rfl, (blk_cell BK135.out 1).trans rfl⟩ (fun hHeld => ?_)
             clear hK K
             refine norm_ (a' := ?_) ?_ ?_
             rotate_left
             ·
              show Act.put _ (some 39) _ = _
              simp only [Act.put, List.setIfInBounds_toArray, List.set_cons_zero, List.set_cons_succ, i64_w, i32_w]
              rfl
             refine pure_ (i := 3) (N := some 36) (v := ?_) (a' := ?_) #[true, true, true, true, false, false, true, false, false] rfl rfl (any_of HT_.out (by kernel_rfl)) (fun _ _ _ h => h) (Or.inl ⟨by rfl, ?_⟩) ?_ ?_
             rotate_left
             ·
              intro w'
              go_simp
              with_reducible rfl
             rotate_left
             ·
              simp only [Act.put, List.setIfInBounds_toArray, List.set_cons_zero, List.set_cons_succ, i64_w, i32_w]
              rfl
             refine pure_ (i := 4) (N := some 40) (v := ?_) (a' := ?_) #[true, true, true, true, true, false, true, false, false] rfl rfl (any_of HT_.out (by kernel_rfl)) (fun _ _ _ h => h) (Or.inl ⟨by rfl, ?_⟩) ?_ ?_
             rotate_left
             ·
              intro w'
              go_simp
              with_reducible rfl
             rotate_left
             ·
              simp only [Act.put, List.setIfInBounds_toArray, List.set_cons_zero, List.set_cons_succ, i64_w, i32_w]
              rfl
             refine pure_ (i := 5) (N := some 41) (v := ?_) (a' := ?_) #[true, true, true, true, true, true, true, false, false] rfl rfl (any_of HT_.out (by kernel_rfl)) (fun _ _ _ h => h) (Or.inl ⟨by rfl, ?_⟩) ?_ ?_
             rotate_left
             ·
              intro w'
              go_simp
              with_reducible rfl
             rotate_left
             ·
              simp only [Act.put, List.setIfInBounds_toArray, List.set_cons_zero, List.set_cons_succ, i64_w, i32_w]
              rfl
             exact norm_ (by simp only [putAll, Act.put, List.setIfInBounds_toArray, List.set_cons_zero, List.set_cons_succ]) (hCont (gb141) _ ⟨hHeld, (bT BK134.out), (bT BK135.out), (bT BK141.out), GW141.out, GE141.out, NB134_141.out, NB141_134.out, NB135_141.out, NB141_135.out, (bW HB.out)⟩)
           rintro gb141 w69 ⟨hS_, h0_, h1_, h2_, h3_, h4_, h5_, h6_, h7_, h8_, h9_⟩
           have n0_ : Aside0 (w69.heap[gb134]? = some (.cells #[.int .u64 x135000_2, .int .u64 x135001_2] 24 (0, 0))) := ⟨h0_⟩
           have n1_ : Aside0 (w69.heap[gb135]? = some (.cells #[.int .u64 x136000_2, .int .u64 x136001_2] 24 (0, 0))) := ⟨h1_⟩
           have n2_ : Aside0 (w69.heap[gb141]? = some (.cells #[.int .u64 0, .int .u64 0] 24 (0, 0))) := ⟨h2_⟩
           have n3_ : Aside0 (w.heap.size ≤ gb141) := ⟨h3_⟩
           have n4_ : Aside0 (w.heap.size ≤ gb141) := ⟨h4_⟩
           have n5_ : Aside0 (gb134 ≠ gb141) := ⟨h5_⟩
           have n6_ : Aside0 (gb141 ≠ gb134) := ⟨h6_⟩
           have n7_ : Aside0 (gb135 ≠ gb141) := ⟨h7_⟩
           have n8_ : Aside0 (gb141 ≠ gb135) := ⟨h8_⟩
           have n9_ : Aside0 (Below w.heap.size w w69) := ⟨h9_⟩
           clear BK134 BK135 HB h0_ h1_ h2_ h3_ h4_ h5_ h6_ h7_ h8_ h9_
           have BK134 := n0_
           have BK135 := n1_
           have BK141 := n2_
           have GW141 := n3_
           have GE141 := n4_
           have NB134_141 := n5_
           have NB141_134 := n6_
           have NB135_141 := n7_
           have NB141_135 := n8_
           have HB := n9_
           clear n0_ n1_ n2_ n3_ n4_ n5_ n6_ n7_ n8_ n9_
           have hHeld : w69.cell? ⟨gb135, 0, none⟩ = some (.int .u64 x136000_2) ∧ w69.cell? ⟨gb135, 1, none⟩ = some (.int .u64 x136001_2) := hS_
           refine norm_ (a' := ?_) ?_ ?_
           rotate_left
           ·
            simp only [putAll, Act.put, List.setIfInBounds_toArray, List.set_cons_zero, List.set_cons_succ]
            rfl
           refine one_ (i := 7) (N := none) #[true, true, true, true, true, true, true, true, false] rfl rfl (one_of HT_.out (by kernel_rfl)) (by decide) (fun K hK => ?_)
           have hs70 : w69.cell? ⟨gb141, 0, none⟩ = some (.int .u64 0) := (blk_cell BK141.out 0).trans rfl
           have hfs70 := blk_frozen BK141.out 0
           have hns70_0 := NB134_141.out
           have hns70_1 := NB135_141.out
           have hms70_0 := NB141_134.out
           have hms70_1 := NB141_135.out
           have hs71 : w69.cell? ⟨gb141, 1, none⟩ = some (.int .u64 0) := (blk_cell BK141.out 1).trans rfl
           have hfs71 := blk_frozen BK141.out 1
           have hns71_0 := NB134_141.out
           have hns71_1 := NB135_141.out
           have hms71_0 := NB141_134.out
           have hms71_1 := NB141_135.out
           refine skip_ (w1 := ?_) (by rfl) rfl ?_ ?_
           rotate_left
           ·
            go_simp
            rfl
           refine hK.out _ _ ⟨((cell_far (p := ⟨gb141, _, none⟩) NB135_141.out _).trans (((cell_far (p := ⟨gb141, _, none⟩) NB135_141.out _).trans (hHeld.1)))), ((cell_far (p := ⟨gb141, _, none⟩) NB135_141.out _).trans (((cell_far (p := ⟨gb141, _, none⟩) NB135_141.out _).trans (hHeld.2))))⟩ (fun hHeld => ?_)
           clear hK K
           refine pure_ (i := 8) (N := some 8) (v := ?_) (a' := ?_) #[true, true, true, true, true, true, true, true, true] rfl rfl (any_of HT_.out (by kernel_rfl)) (fun _ _ _ h => h) (Or.inl ⟨by rfl, ?_⟩) ?_ ?_
           rotate_left
           ·
            intro w'
            go_simp
            with_reducible rfl
           rotate_left
           ·
            simp only [Act.put, List.setIfInBounds_toArray, List.set_cons_zero, List.set_cons_succ, i64_w, i32_w]
            rfl
           refine done_ (done_of HT_.out (by kernel_rfl)) ?_
           try go_wp2
           have n0_ : Aside0 (((w69.setCell ⟨gb141, 0, none⟩ (.int .u64 t138)).setCell ⟨gb141, 1, none⟩ (.int .u64 t139)).heap[gb134]? = some (.cells #[.int .u64 x135000_2, .int .u64 x135001_2] 24 (0, 0))) := ⟨by (with_reducible repeat (first | refine blk_drewN ?_ _ | refine blk_drew ?_ | refine blk_alloc ?_ _)); refine blk_far ?_ NB134_141.out _; (with_reducible repeat (first | refine blk_drewN ?_ _ | refine blk_drew ?_ | refine blk_alloc ?_ _)); refine blk_far ?_ NB134_141.out _; (with_reducible repeat (first | refine blk_drewN ?_ _ | refine blk_drew ?_ | refine blk_alloc ?_ _)); exact BK134.out⟩
           have n1_ : Aside0 (((w69.setCell ⟨gb141, 0, none⟩ (.int .u64 t138)).setCell ⟨gb141, 1, none⟩ (.int .u64 t139)).heap[gb135]? = some (.cells #[.int .u64 x136000_2, .int .u64 x136001_2] 24 (0, 0))) := ⟨by (with_reducible repeat (first | refine blk_drewN ?_ _ | refine blk_drew ?_ | refine blk_alloc ?_ _)); refine blk_far ?_ NB135_141.out _; (with_reducible repeat (first | refine blk_drewN ?_ _ | refine blk_drew ?_ | refine blk_alloc ?_ _)); refine blk_far ?_ NB135_141.out _; (with_reducible repeat (first | refine blk_drewN ?_ _ | refine blk_drew ?_ | refine blk_alloc ?_ _)); exact BK135.out⟩
           have n2_ : Aside0 (((w69.setCell ⟨gb141, 0, none⟩ (.int .u64 t138)).setCell ⟨gb141, 1, none⟩ (.int .u64 t139)).heap[gb141]? = some (.cells #[.int .u64 t138, .int .u64 t139] 24 (0, 0))) := ⟨by (with_reducible repeat (first | refine blk_drewN ?_ _ | refine blk_drew ?_ | refine blk_alloc ?_ _)); refine blk_put (cs := #[.int .u64 t138, .int .u64 0]) ?_ 1 _ rfl; (with_reducible repeat (first | refine blk_drewN ?_ _ | refine blk_drew ?_ | refine blk_alloc ?_ _)); refine blk_put (cs := #[.int .u64 0, .int .u64 0]) ?_ 0 _ rfl; (with_reducible repeat (first | refine blk_drewN ?_ _ | refine blk_drew ?_ | refine blk_alloc ?_ _)); exact BK141.out⟩
           have n3_ : Aside0 (Below w.heap.size w ((w69.setCell ⟨gb141, 0, none⟩ (.int .u64 t138)).setCell ⟨gb141, 1, none⟩ (.int .u64 t139))) := ⟨by repeat (first | (with_reducible first | exact HB.out | apply below_alloc | apply pw_below_drewN | apply below_drew1 | refine below_set ?_ GE134.out | refine below_set ?_ GE135.out | refine below_set ?_ GE141.out) | exact HB.out)⟩
           (try clear BK134)
           (try clear BK135)
           (try clear BK141)
           (try clear HB)
           generalize ((w69.setCell ⟨gb141, 0, none⟩ (.int .u64 t138)).setCell ⟨gb141, 1, none⟩ (.int .u64 t139)) = w72 at n0_ n1_ n2_ n3_ ⊢
           have BK134 := n0_
           have BK135 := n1_
           have BK141 := n2_
           have HB := n3_
           clear n0_ n1_ n2_ n3_
           have n0_ := Aside0.mk (blk_drew BK134.out)
           have n1_ := Aside0.mk (blk_drew BK135.out)
           have n2_ := Aside0.mk (blk_drew BK141.out)
           have n3_ := Aside0.mk (below_drew1 HB.out)
           clear BK134 BK135 BK141 HB
           have BK134 := n0_
           have BK135 := n1_
           have BK141 := n2_
           have HB := n3_
           clear n0_ n1_ n2_ n3_
           refine start_ (n := 11) (S := fun w' => w'.cell? ⟨gb141, 0, none⟩ = some (.int .u64 t138) ∧ w'.cell? ⟨gb141, 1, none⟩ = some (.int .u64 t139)) (ds := []) #[false, false, false, false, false, false, false, false, false, false, false] (by kernel_rfl) rfl rfl ⟨(blk_cell BK141.out 0).trans rfl, (blk_cell BK141.out 1).trans rfl⟩ (fun hHeld => ?_); refine with_tabW wide_Read.tab11 wide_Read.bits11 (fun HT_ HW_ => ?_)
           generalize w72.drew = w73 at BK134 BK135 BK141 HB hHeld ⊢
           refine pure_ (i := 1) (N := some 44) (v := ?_) (a' := ?_) #[false, true, false, false, false, false, false, false, false, false, false] rfl rfl (any_of HT_.out (by kernel_rfl)) (fun _ _ _ h => h) (Or.inl ⟨by rfl, ?_⟩) ?_ ?_
           rotate_left
           ·
            intro w'
            go_simp
            with_reducible rfl
           rotate_left
           ·
            simp only [Act.put, List.setIfInBounds_toArray, List.set_cons_zero, List.set_cons_succ, i64_w, i32_w]
            rfl
           refine pure_ (i := 2) (N := some 45) (v := ?_) (a' := ?_) #[false, true, true, false, false, false, false, false, false, false, false] rfl rfl (any_of HT_.out (by kernel_rfl)) (fun _ _ _ h => h) (Or.inl ⟨by rfl, ?_⟩) ?_ ?_
           rotate_left
           ·
            intro w'
            go_simp
            with_reducible rfl
           rotate_left
           ·
            simp only [Act.put, List.setIfInBounds_toArray, List.set_cons_zero, List.set_cons_succ, i64_w, i32_w]
            rfl
           refine take_ (i := 0) (N := some 43) (v := ?_) (a' := ?_) #[true, true, true, false, false, false, false, false, false, false, false] rfl rfl (take_ofW HT_.out HW_.out (by kernel_rfl)) (fun _ _ _ h => h) (Or.inl ⟨by rfl, ?_⟩) hHeld ?_ ?_
           rotate_left
           ·
            rintro w' ⟨s0, s1⟩
            go_simp
            with_reducible rfl
           rotate_left
           ·
            simp only [Act.put, List.setIfInBounds_toArray, List.set_cons_zero, List.set_cons_succ, i64_w, i32_w]
            rfl
           refine join_ (σ := Nat) 2 #[true, true, true, true, true, true, true, true, true, false, false] (fun s_ => [(46, .agg #[.int .u64 t142, .int .u64 t143]), (47, .tuple #[.agg #[.int .u64 t144, .int .u64 t145], .bool t146]), (9, .pointer (some ⟨s_, 0, none⟩)), (42, .tuple #[.agg #[.int .u64 t144, .int .u64 t145], .bool t146]), (48, .agg #[.int .u64 t144, .int .u64 t145]), (49, .bool t146)]) (fun s_ w' => (w'.cell? ⟨gb141, 0, none⟩ = some (.int .u64 t138) ∧ w'.cell? ⟨gb141, 1, none⟩ = some (.int .u64 t139)) ∧ (w'.heap[gb134]? = some (.cells #[.int .u64 x135000_2, .int .u64 x135001_2] 24 (0, 0))) ∧ (w'.heap[gb135]? = some (.cells #[.int .u64 x136000_2, .int .u64 x136001_2] 24 (0, 0))) ∧ (w'.heap[gb141]? = some (.cells #[.int .u64 t138, .int .u64 t139] 24 (0, 0))) ∧ (w'.heap[s_]? = some (.cells #[.int .u64 0, .int .u64 0] 24 (0, 0))) ∧ (w.heap.size ≤ s_) ∧ (w.heap.size ≤ s_) ∧ (gb134 ≠ s_) ∧ (s_ ≠ gb134) ∧ (gb135 ≠ s_) ∧ (s_ ≠ gb135) ∧ (gb141 ≠ s_) ∧ (s_ ≠ gb141) ∧ (Below w.heap.size w w')) ?_ ?_
           rotate_left
           ·
            intro hCont
            refine two_ (i := 3) (j := 8) (Ni := some 46) (Nj := some 9) #[true, true, true, true, false, false, false, false, false, false, false] #[true, true, true, false, false, false, false, false, true, false, false] rfl rfl rfl rfl (two_of HT_.out (by kernel_rfl)) (by decide) (by decide) (fun K hK => ?_) (fun K hK => ?_)
            ·
             skip
             refine goes_ Try.func18 (by kernel_rfl) rfl #[.int .u64 (((bt a0 x26_2) - 48) % 256)] (by rfl) rfl rfl (by (try simp only [List.map_toArray, List.map_cons, List.map_nil]); first | done | rfl | (simp [Act.eval]; rw [D.wrapE]; omega)) ?_
             with_reducible refine (wide_Of.calls (((bt a0 x26_2) - 48) % 256) t142 t143 _ A20.out).mono ?_
             rintro e w74 ⟨rfl, hb⟩
             refine ⟨_, rfl, ?_⟩
             have n0_ := Aside0.mk (blk_below (bT BK134.out) hb)
             have n1_ := Aside0.mk (blk_below (bT BK135.out) hb)
             have n2_ := Aside0.mk (blk_below (bT BK141.out) hb)
             have n3_ := Aside0.mk (below_step (bW HB.out) hb)
             clear BK134 BK135 BK141 HB
             have BK134 := n0_
             have BK135 := n1_
             have BK141 := n2_
             have HB := n3_
             clear n0_ n1_ n2_ n3_
             (try clear hb)
             (try clear hb2)
             (try clear hk)
             (try clear hi)
             refine hK.out _ _ ⟨(blk_cell BK141.out 0).trans rfl, (blk_cell BK141.out 1).trans rfl⟩ (fun hHeld => ?_)
             clear hK K
             refine norm_ (a' := ?_) ?_ ?_
             rotate_left
             ·
              show Act.put _ (some 46) _ = _
              simp only [Act.put, List.setIfInBounds_toArray, List.set_cons_zero, List.set_cons_succ, i64_w, i32_w]
              rfl
             refine two_ (i := 4) (j := 8) (Ni := some 47) (Nj := some 9) #[true, true, true, true, true, false, false, false, false, false, false] #[true, true, true, true, false, false, false, false, true, false, false] rfl rfl rfl rfl (two_of HT_.out (by kernel_rfl)) (by decide) (by decide) (fun K hK => ?_) (fun K hK => ?_)
             ·
              skip
              refine goes_ Try.func16 (by kernel_rfl) rfl #[.agg #[.int .u64 t138, .int .u64 t139], .agg #[.int .u64 t142, .int .u64 t143]] (by rfl) rfl rfl (by (try simp only [List.map_toArray, List.map_cons, List.map_nil]); first | done | rfl | (simp only [List.length_drop, List.length_take]; rfl)) ?_
              with_reducible refine (wide_Add.calls t138 t139 t142 t143 t144 t145 t146 _ A21.out).mono ?_
              rintro e w75 ⟨rfl, hb⟩
              refine ⟨_, rfl, ?_⟩
              have n0_ := Aside0.mk (blk_below (bT BK134.out) hb)
              have n1_ := Aside0.mk (blk_below (bT BK135.out) hb)
              have n2_ := Aside0.mk (blk_below (bT BK141.out) hb)
              have n3_ := Aside0.mk (below_step (bW HB.out) hb)
              clear BK134 BK135 BK141 HB
              have BK134 := n0_
              have BK135 := n1_
              have BK141 := n2_
              have HB := n3_
              clear n0_ n1_ n2_ n3_
              (try clear hb)
              (try clear hb2)
              (try clear hk)
              (try clear hi)
              refine hK.out _ _ ⟨(blk_cell BK141.out 0).trans rfl, (blk_cell BK141.out 1).trans rfl⟩ (fun hHeld => ?_)
              clear hK K
              refine norm_ (a' := ?_) ?_ ?_
              rotate_left
              ·
               show Act.put _ (some 47) _ = _
               simp only [Act.put, List.setIfInBounds_toArray, List.set_cons_zero, List.set_cons_succ, i64_w, i32_w]
               rfl
              refine pure_ (i := 5) (N := some 42) (v := ?_) (a' := ?_) #[true, true, true, true, true, true, false, false, false, false, false] rfl rfl (any_of HT_.out (by kernel_rfl)) (fun _ _ _ h => h) (Or.inl ⟨by rfl, ?_⟩) ?_ ?_
              rotate_left
              ·
               intro w'
               go_simp
               with_reducible rfl
              rotate_left
              ·
               simp only [Act.put, List.setIfInBounds_toArray, List.set_cons_zero, List.set_cons_succ, i64_w, i32_w]
               rfl
              refine pure_ (i := 6) (N := some 48) (v := ?_) (a' := ?_) #[true, true, true, true, true, true, true, false, false, false, false] rfl rfl (any_of HT_.out (by kernel_rfl)) (fun _ _ _ h => h) (Or.inl ⟨by rfl, ?_⟩) ?_ ?_
              rotate_left
              ·
               intro w'
               go_simp
               with_reducible rfl
              rotate_left
              ·
               simp only [Act.put, List.setIfInBounds_toArray, List.set_cons_zero, List.set_cons_succ, i64_w, i32_w]
               rfl
              refine pure_ (i := 7) (N := some 49) (v := ?_) (a' := ?_) #[true, true, true, true, true, true, true, true, false, false, false] rfl rfl (any_of HT_.out (by kernel_rfl)) (fun _ _ _ h => h) (Or.inl ⟨by rfl, ?_⟩) ?_ ?_
              rotate_left
              ·
               intro w'
               go_simp
               with_reducible rfl
              rotate_left
              ·
               simp only [Act.put, List.setIfInBounds_toArray, List.set_cons_zero, List.set_cons_succ, i64_w, i32_w]
               rfl
              refine one_ (i := 8) (N := some 9) #[true, true, true, true, true, true, true, true, true, false, false] rfl rfl (one_of HT_.out (by kernel_rfl)) (by decide) (fun K hK => ?_)
              refine box_step ?hg (N := 9) ?hd (cs := #[.int .u64 0, .int .u64 0]) (t := 24) ?hr ?_; (case hd => rfl); (case hg => rfl); (case hr => first | (go_simp; done) | (go_simp; rfl))
              intro gb147 hg w76 hbox hb
              have n0_ := Aside0.mk (blk_below (bT BK134.out) hb)
              have n1_ := Aside0.mk (blk_below (bT BK135.out) hb)
              have n2_ := Aside0.mk (blk_below (bT BK141.out) hb)
              have n3_ := Aside0.mk (below_step (bW HB.out) hb)
              have n4_ := Aside0.mk (hbox)
              have n5_ := Aside0.mk ((by rw [hg]; exact (below_size (bW HB.out)) : w.heap.size ≤ gb147))
              have n6_ := Aside0.mk ((by rw [hg]; exact (below_size (bW HB.out)) : w.heap.size ≤ gb147))
              have n7_ := Aside0.mk ((by rw [hg]; exact Nat.ne_of_lt (blk_lt (bT BK134.out)) : gb134 ≠ gb147))
              have n8_ := Aside0.mk ((by rw [hg]; exact Nat.ne_of_gt (blk_lt (bT BK134.out)) : gb147 ≠ gb134))
              have n9_ := Aside0.mk ((by rw [hg]; exact Nat.ne_of_lt (blk_lt (bT BK135.out)) : gb135 ≠ gb147))
              have n10_ := Aside0.mk ((by rw [hg]; exact Nat.ne_of_gt (blk_lt (bT BK135.out)) : gb147 ≠ gb135))
              have n11_ := Aside0.mk ((by rw [hg]; exact Nat.ne_of_lt (blk_lt (bT BK141.out)) : gb141 ≠ gb147))
              have n12_ := Aside0.mk ((by rw [hg]; exact Nat.ne_of_gt (blk_lt (bT BK141.out)) : gb147 ≠ gb141))
              clear BK134 BK135 BK141 HB
              have BK134 := n0_
              have BK135 := n1_
              have BK141 := n2_
              have HB := n3_
              have BK147 := n4_
              have GW147 := n5_
              have GE147 := n6_
              have NB134_147 := n7_
              have NB147_134 := n8_
              have NB135_147 := n9_
              have NB147_135 := n10_
              have NB141_147 := n11_
              have NB147_141 := n12_
              clear n0_ n1_ n2_ n3_ n4_ n5_ n6_ n7_ n8_ n9_ n10_ n11_ n12_ hb hbox hg
              refine hK.out _ _ ⟨(blk_cell BK141.out 0).trans rfl, (blk_cell BK141.out 1).trans rfl⟩ (fun hHeld => ?_)
              clear hK K
              refine norm_ (a' := ?_) ?_ ?_
              rotate_left
              ·
               show Act.put _ (some 9) _ = _
               simp only [Act.put, List.setIfInBounds_toArray, List.set_cons_zero, List.set_cons_succ, i64_w, i32_w]
               rfl
              exact norm_ (by simp only [putAll, Act.put, List.setIfInBounds_toArray, List.set_cons_zero, List.set_cons_succ]) (hCont (gb147) _ ⟨hHeld, (bT BK134.out), (bT BK135.out), (bT BK141.out), (bT BK147.out), GW147.out, GE147.out, NB134_147.out, NB147_134.out, NB135_147.out, NB147_135.out, NB141_147.out, NB147_141.out, (bW HB.out)⟩)
             ·
              skip
              refine box_step ?hg (N := 9) ?hd (cs := #[.int .u64 0, .int .u64 0]) (t := 24) ?hr ?_; (case hd => rfl); (case hg => rfl); (case hr => first | (go_simp; done) | (go_simp; rfl))
              intro gb147 hg w75 hbox hb
              have n0_ := Aside0.mk (blk_below (bT BK134.out) hb)
              have n1_ := Aside0.mk (blk_below (bT BK135.out) hb)
              have n2_ := Aside0.mk (blk_below (bT BK141.out) hb)
              have n3_ := Aside0.mk (below_step (bW HB.out) hb)
              have n4_ := Aside0.mk (hbox)
              have n5_ := Aside0.mk ((by rw [hg]; exact (below_size (bW HB.out)) : w.heap.size ≤ gb147))
              have n6_ := Aside0.mk ((by rw [hg]; exact (below_size (bW HB.out)) : w.heap.size ≤ gb147))
              have n7_ := Aside0.mk ((by rw [hg]; exact Nat.ne_of_lt (blk_lt (bT BK134.out)) : gb134 ≠ gb147))
              have n8_ := Aside0.mk ((by rw [hg]; exact Nat.ne_of_gt (blk_lt (bT BK134.out)) : gb147 ≠ gb134))
              have n9_ := Aside0.mk ((by rw [hg]; exact Nat.ne_of_lt (blk_lt (bT BK135.out)) : gb135 ≠ gb147))
              have n10_ := Aside0.mk ((by rw [hg]; exact Nat.ne_of_gt (blk_lt (bT BK135.out)) : gb147 ≠ gb135))
              have n11_ := Aside0.mk ((by rw [hg]; exact Nat.ne_of_lt (blk_lt (bT BK141.out)) : gb141 ≠ gb147))
              have n12_ := Aside0.mk ((by rw [hg]; exact Nat.ne_of_gt (blk_lt (bT BK141.out)) : gb147 ≠ gb141))
              clear BK134 BK135 BK141 HB
              have BK134 := n0_
              have BK135 := n1_
              have BK141 := n2_
              have HB := n3_
              have BK147 := n4_
              have GW147 := n5_
              have GE147 := n6_
              have NB134_147 := n7_
              have NB147_134 := n8_
              have NB135_147 := n9_
              have NB147_135 := n10_
              have NB141_147 := n11_
              have NB147_141 := n12_
              clear n0_ n1_ n2_ n3_ n4_ n5_ n6_ n7_ n8_ n9_ n10_ n11_ n12_ hb hbox hg
              refine hK.out _ _ ⟨(blk_cell BK141.out 0).trans rfl, (blk_cell BK141.out 1).trans rfl⟩ (fun hHeld => ?_)
              clear hK K
              refine norm_ (a' := ?_) ?_ ?_
              rotate_left
              ·
               show Act.put _ (some 9) _ = _
               simp only [Act.put, List.setIfInBounds_toArray, List.set_cons_zero, List.set_cons_succ, i64_w, i32_w]
               rfl
              refine one_ (i := 4) (N := some 47) #[true, true, true, true, true, false, false, false, true, false, false] rfl rfl (one_of HT_.out (by kernel_rfl)) (by decide) (fun K hK => ?_)
              refine goes_ Try.func16 (by kernel_rfl) rfl #[.agg #[.int .u64 t138, .int .u64 t139], .agg #[.int .u64 t142, .int .u64 t143]] (by rfl) rfl rfl (by (try simp only [List.map_toArray, List.map_cons, List.map_nil]); first | done | rfl | (simp only [List.length_drop, List.length_take]; rfl)) ?_
              with_reducible refine (wide_Add.calls t138 t139 t142 t143 t144 t145 t146 _ A21.out).mono ?_
              rintro e w76 ⟨rfl, hb⟩
              refine ⟨_, rfl, ?_⟩
              have n0_ := Aside0.mk (blk_below (bT BK134.out) hb)
              have n1_ := Aside0.mk (blk_below (bT BK135.out) hb)
              have n2_ := Aside0.mk (blk_below (bT BK141.out) hb)
              have n3_ := Aside0.mk (blk_below (bT BK147.out) hb)
              have n4_ := Aside0.mk (below_step (bW HB.out) hb)
              clear BK134 BK135 BK141 BK147 HB
              have BK134 := n0_
              have BK135 := n1_
              have BK141 := n2_
              have BK147 := n3_
              have HB := n4_
              clear n0_ n1_ n2_ n3_ n4_
              (try clear hb)
              (try clear hb2)
              (try clear hk)
              (try clear hi)
              refine hK.out _ _ ⟨(blk_cell BK141.out 0).trans rfl, (blk_cell BK141.out 1).trans rfl⟩ (fun hHeld => ?_)
              clear hK K
              refine norm_ (a' := ?_) ?_ ?_
              rotate_left
              ·
               show Act.put _ (some 47) _ = _
               simp only [Act.put, List.setIfInBounds_toArray, List.set_cons_zero, List.set_cons_succ, i64_w, i32_w]
               rfl
              refine pure_ (i := 5) (N := some 42) (v := ?_) (a' := ?_) #[true, true, true, true, true, true, false, false, true, false, false] rfl rfl (any_of HT_.out (by kernel_rfl)) (fun _ _ _ h => h) (Or.inl ⟨by rfl, ?_⟩) ?_ ?_
              rotate_left
              ·
               intro w'
               go_simp
               with_reducible rfl
              rotate_left
              ·
               simp only [Act.put, List.setIfInBounds_toArray, List.set_cons_zero, List.set_cons_succ, i64_w, i32_w]
               rfl
              refine pure_ (i := 6) (N := some 48) (v := ?_) (a' := ?_) #[true, true, true, true, true, true, true, false, true, false, false] rfl rfl (any_of HT_.out (by kernel_rfl)) (fun _ _ _ h => h) (Or.inl ⟨by rfl, ?_⟩) ?_ ?_
              rotate_left
              ·
               intro w'
               go_simp
               with_reducible rfl
              rotate_left
              ·
               simp only [Act.put, List.setIfInBounds_toArray, List.set_cons_zero, List.set_cons_succ, i64_w, i32_w]
               rfl
              refine pure_ (i := 7) (N := some 49) (v := ?_) (a' := ?_) #[true, true, true, true, true, true, true, true, true, false, false] rfl rfl (any_of HT_.out (by kernel_rfl)) (fun _ _ _ h => h) (Or.inl ⟨by rfl, ?_⟩) ?_ ?_
              rotate_left
              ·
               intro w'
               go_simp
               with_reducible rfl
              rotate_left
              ·
               simp only [Act.put, List.setIfInBounds_toArray, List.set_cons_zero, List.set_cons_succ, i64_w, i32_w]
               rfl
              exact norm_ (by simp only [putAll, Act.put, List.setIfInBounds_toArray, List.set_cons_zero, List.set_cons_succ]) (hCont (gb147) _ ⟨hHeld, (bT BK134.out), (bT BK135.out), (bT BK141.out), (bT BK147.out), GW147.out, GE147.out, NB134_147.out, NB147_134.out, NB135_147.out, NB147_135.out, NB141_147.out, NB147_141.out, (bW HB.out)⟩)
            ·
             skip
             refine box_step ?hg (N := 9) ?hd (cs := #[.int .u64 0, .int .u64 0]) (t := 24) ?hr ?_; (case hd => rfl); (case hg => rfl); (case hr => first | (go_simp; done) | (go_simp; rfl))
             intro gb147 hg w74 hbox hb
             have n0_ := Aside0.mk (blk_below (bT BK134.out) hb)
             have n1_ := Aside0.mk (blk_below (bT BK135.out) hb)
             have n2_ := Aside0.mk (blk_below (bT BK141.out) hb)
             have n3_ := Aside0.mk (below_step (bW HB.out) hb)
             have n4_ := Aside0.mk (hbox)
             have n5_ := Aside0.mk ((by rw [hg]; exact (below_size (bW HB.out)) : w.heap.size ≤ gb147))
             have n6_ := Aside0.mk ((by rw [hg]; exact (below_size (bW HB.out)) : w.heap.size ≤ gb147))
             have n7_ := Aside0.mk ((by rw [hg]; exact Nat.ne_of_lt (blk_lt (bT BK134.out)) : gb134 ≠ gb147))
             have n8_ := Aside0.mk ((by rw [hg]; exact Nat.ne_of_gt (blk_lt (bT BK134.out)) : gb147 ≠ gb134))
             have n9_ := Aside0.mk ((by rw [hg]; exact Nat.ne_of_lt (blk_lt (bT BK135.out)) : gb135 ≠ gb147))
             have n10_ := Aside0.mk ((by rw [hg]; exact Nat.ne_of_gt (blk_lt (bT BK135.out)) : gb147 ≠ gb135))
             have n11_ := Aside0.mk ((by rw [hg]; exact Nat.ne_of_lt (blk_lt (bT BK141.out)) : gb141 ≠ gb147))
             have n12_ := Aside0.mk ((by rw [hg]; exact Nat.ne_of_gt (blk_lt (bT BK141.out)) : gb147 ≠ gb141))
             clear BK134 BK135 BK141 HB
             have BK134 := n0_
             have BK135 := n1_
             have BK141 := n2_
             have HB := n3_
             have BK147 := n4_
             have GW147 := n5_
             have GE147 := n6_
             have NB134_147 := n7_
             have NB147_134 := n8_
             have NB135_147 := n9_
             have NB147_135 := n10_
             have NB141_147 := n11_
             have NB147_141 := n12_
             clear n0_ n1_ n2_ n3_ n4_ n5_ n6_ n7_ n8_ n9_ n10_ n11_ n12_ hb hbox hg
             refine hK.out _ _ ⟨(blk_cell BK141.out 0).trans rfl, (blk_cell BK141.out 1).trans rfl⟩ (fun hHeld => ?_)
             clear hK K
             refine norm_ (a' := ?_) ?_ ?_
             rotate_left
             ·
              show Act.put _ (some 9) _ = _
              simp only [Act.put, List.setIfInBounds_toArray, List.set_cons_zero, List.set_cons_succ, i64_w, i32_w]
              rfl
             refine one_ (i := 3) (N := some 46) #[true, true, true, true, false, false, false, false, true, false, false] rfl rfl (one_of HT_.out (by kernel_rfl)) (by decide) (fun K hK => ?_)
             refine goes_ Try.func18 (by kernel_rfl) rfl #[.int .u64 (((bt a0 x26_2) - 48) % 256)] (by rfl) rfl rfl (by (try simp only [List.map_toArray, List.map_cons, List.map_nil]); first | done | rfl | (simp [Act.eval]; rw [D.wrapE]; omega)) ?_
             with_reducible refine (wide_Of.calls (((bt a0 x26_2) - 48) % 256) t142 t143 _ A20.out).mono ?_
             rintro e w75 ⟨rfl, hb⟩
             refine ⟨_, rfl, ?_⟩
             have n0_ := Aside0.mk (blk_below (bT BK134.out) hb)
             have n1_ := Aside0.mk (blk_below (bT BK135.out) hb)
             have n2_ := Aside0.mk (blk_below (bT BK141.out) hb)
             have n3_ := Aside0.mk (blk_below (bT BK147.out) hb)
             have n4_ := Aside0.mk (below_step (bW HB.out) hb)
             clear BK134 BK135 BK141 BK147 HB
             have BK134 := n0_
             have BK135 := n1_
             have BK141 := n2_
             have BK147 := n3_
             have HB := n4_
             clear n0_ n1_ n2_ n3_ n4_
             (try clear hb)
             (try clear hb2)
             (try clear hk)
             (try clear hi)
             refine hK.out _ _ ⟨(blk_cell BK141.out 0).trans rfl, (blk_cell BK141.out 1).trans rfl⟩ (fun hHeld => ?_)
             clear hK K
             refine norm_ (a' := ?_) ?_ ?_
             rotate_left
             ·
              show Act.put _ (some 46) _ = _
              simp only [Act.put, List.setIfInBounds_toArray, List.set_cons_zero, List.set_cons_succ, i64_w, i32_w]
              rfl
             refine one_ (i := 4) (N := some 47) #[true, true, true, true, true, false, false, false, true, false, false] rfl rfl (one_of HT_.out (by kernel_rfl)) (by decide) (fun K hK => ?_)
             refine goes_ Try.func16 (by kernel_rfl) rfl #[.agg #[.int .u64 t138, .int .u64 t139], .agg #[.int .u64 t142, .int .u64 t143]] (by rfl) rfl rfl (by (try simp only [List.map_toArray, List.map_cons, List.map_nil]); first | done | rfl | (simp only [List.length_drop, List.length_take]; rfl)) ?_
             with_reducible refine (wide_Add.calls t138 t139 t142 t143 t144 t145 t146 _ A21.out).mono ?_
             rintro e w76 ⟨rfl, hb⟩
             refine ⟨_, rfl, ?_⟩
             have n0_ := Aside0.mk (blk_below (bT BK134.out) hb)
             have n1_ := Aside0.mk (blk_below (bT BK135.out) hb)
             have n2_ := Aside0.mk (blk_below (bT BK141.out) hb)
             have n3_ := Aside0.mk (blk_below (bT BK147.out) hb)
             have n4_ := Aside0.mk (below_step (bW HB.out) hb)
             clear BK134 BK135 BK141 BK147 HB
             have BK134 := n0_
             have BK135 := n1_
             have BK141 := n2_
             have BK147 := n3_
             have HB := n4_
             clear n0_ n1_ n2_ n3_ n4_
             (try clear hb)
             (try clear hb2)
             (try clear hk)
             (try clear hi)
             refine hK.out _ _ ⟨(blk_cell BK141.out 0).trans rfl, (blk_cell BK141.out 1).trans rfl⟩ (fun hHeld => ?_)
             clear hK K
             refine norm_ (a' := ?_) ?_ ?_
             rotate_left
             ·
              show Act.put _ (some 47) _ = _
              simp only [Act.put, List.setIfInBounds_toArray, List.set_cons_zero, List.set_cons_succ, i64_w, i32_w]
              rfl
             refine pure_ (i := 5) (N := some 42) (v := ?_) (a' := ?_) #[true, true, true, true, true, true, false, false, true, false, false] rfl rfl (any_of HT_.out (by kernel_rfl)) (fun _ _ _ h => h) (Or.inl ⟨by rfl, ?_⟩) ?_ ?_
             rotate_left
             ·
              intro w'
              go_simp
              with_reducible rfl
             rotate_left
             ·
              simp only [Act.put, List.setIfInBounds_toArray, List.set_cons_zero, List.set_cons_succ, i64_w, i32_w]
              rfl
             refine pure_ (i := 6) (N := some 48) (v := ?_) (a' := ?_) #[true, true, true, true, true, true, true, false, true, false, false] rfl rfl (any_of HT_.out (by kernel_rfl)) (fun _ _ _ h => h) (Or.inl ⟨by rfl, ?_⟩) ?_ ?_
             rotate_left
             ·
              intro w'
              go_simp
              with_reducible rfl
             rotate_left
             ·
              simp only [Act.put, List.setIfInBounds_toArray, List.set_cons_zero, List.set_cons_succ, i64_w, i32_w]
              rfl
             refine pure_ (i := 7) (N := some 49) (v := ?_) (a' := ?_) #[true, true, true, true, true, true, true, true, true, false, false] rfl rfl (any_of HT_.out (by kernel_rfl)) (fun _ _ _ h => h) (Or.inl ⟨by rfl, ?_⟩) ?_ ?_
             rotate_left
             ·
              intro w'
              go_simp
              with_reducible rfl
             rotate_left
             ·
              simp only [Act.put, List.setIfInBounds_toArray, List.set_cons_zero, List.set_cons_succ, i64_w, i32_w]
              rfl
             exact norm_ (by simp only [putAll, Act.put, List.setIfInBounds_toArray, List.set_cons_zero, List.set_cons_succ]) (hCont (gb147) _ ⟨hHeld, (bT BK134.out), (bT BK135.out), (bT BK141.out), (bT BK147.out), GW147.out, GE147.out, NB134_147.out, NB147_134.out, NB135_147.out, NB147_135.out, NB141_147.out, NB147_141.out, (bW HB.out)⟩)
           rintro gb147 w77 ⟨hS_, h0_, h1_, h2_, h3_, h4_, h5_, h6_, h7_, h8_, h9_, h10_, h11_, h12_⟩
           have n0_ : Aside0 (w77.heap[gb134]? = some (.cells #[.int .u64 x135000_2, .int .u64 x135001_2] 24 (0, 0))) := ⟨h0_⟩
           have n1_ : Aside0 (w77.heap[gb135]? = some (.cells #[.int .u64 x136000_2, .int .u64 x136001_2] 24 (0, 0))) := ⟨h1_⟩
           have n2_ : Aside0 (w77.heap[gb141]? = some (.cells #[.int .u64 t138, .int .u64 t139] 24 (0, 0))) := ⟨h2_⟩
           have n3_ : Aside0 (w77.heap[gb147]? = some (.cells #[.int .u64 0, .int .u64 0] 24 (0, 0))) := ⟨h3_⟩
           have n4_ : Aside0 (w.heap.size ≤ gb147) := ⟨h4_⟩
           have n5_ : Aside0 (w.heap.size ≤ gb147) := ⟨h5_⟩
           have n6_ : Aside0 (gb134 ≠ gb147) := ⟨h6_⟩
           have n7_ : Aside0 (gb147 ≠ gb134) := ⟨h7_⟩
           have n8_ : Aside0 (gb135 ≠ gb147) := ⟨h8_⟩
           have n9_ : Aside0 (gb147 ≠ gb135) := ⟨h9_⟩
           have n10_ : Aside0 (gb141 ≠ gb147) := ⟨h10_⟩
           have n11_ : Aside0 (gb147 ≠ gb141) := ⟨h11_⟩
           have n12_ : Aside0 (Below w.heap.size w w77) := ⟨h12_⟩
           clear BK134 BK135 BK141 HB h0_ h1_ h2_ h3_ h4_ h5_ h6_ h7_ h8_ h9_ h10_ h11_ h12_
           have BK134 := n0_
           have BK135 := n1_
           have BK141 := n2_
           have BK147 := n3_
           have GW147 := n4_
           have GE147 := n5_
           have NB134_147 := n6_
           have NB147_134 := n7_
           have NB135_147 := n8_
           have NB147_135 := n9_
           have NB141_147 := n10_
           have NB147_141 := n11_
           have HB := n12_
           clear n0_ n1_ n2_ n3_ n4_ n5_ n6_ n7_ n8_ n9_ n10_ n11_ n12_
           have hHeld : w77.cell? ⟨gb141, 0, none⟩ = some (.int .u64 t138) ∧ w77.cell? ⟨gb141, 1, none⟩ = some (.int .u64 t139) := hS_
           refine norm_ (a' := ?_) ?_ ?_
           rotate_left
           ·
            simp only [putAll, Act.put, List.setIfInBounds_toArray, List.set_cons_zero, List.set_cons_succ]
            rfl
           refine one_ (i := 9) (N := none) #[true, true, true, true, true, true, true, true, true, true, false] rfl rfl (one_of HT_.out (by kernel_rfl)) (by decide) (fun K hK => ?_)
           have hs78 : w77.cell? ⟨gb147, 0, none⟩ = some (.int .u64 0) := (blk_cell BK147.out 0).trans rfl
           have hfs78 := blk_frozen BK147.out 0
           have hns78_0 := NB134_147.out
           have hns78_1 := NB135_147.out
           have hns78_2 := NB141_147.out
           have hms78_0 := NB147_134.out
           have hms78_1 := NB147_135.out
           have hms78_2 := NB147_141.out
           have hs79 : w77.cell? ⟨gb147, 1, none⟩ = some (.int .u64 0) := (blk_cell BK147.out 1).trans rfl
           have hfs79 := blk_frozen BK147.out 1
           have hns79_0 := NB134_147.out
           have hns79_1 := NB135_147.out
           have hns79_2 := NB141_147.out
           have hms79_0 := NB147_134.out
           have hms79_1 := NB147_135.out
           have hms79_2 := NB147_141.out
           refine skip_ (w1 := ?_) (by rfl) rfl ?_ ?_
           rotate_left
           ·
            go_simp
            rfl
           refine hK.out _ _ ⟨((cell_far (p := ⟨gb147, _, none⟩) NB141_147.out _).trans (((cell_far (p := ⟨gb147, _, none⟩) NB141_147.out _).trans (hHeld.1)))), ((cell_far (p := ⟨gb147, _, none⟩) NB141_147.out _).trans (((cell_far (p := ⟨gb147, _, none⟩) NB141_147.out _).trans (hHeld.2))))⟩ (fun hHeld => ?_)
           clear hK K
           refine pure_ (i := 10) (N := some 10) (v := ?_) (a' := ?_) #[true, true, true, true, true, true, true, true, true, true, true] rfl rfl (any_of HT_.out (by kernel_rfl)) (fun _ _ _ h => h) (Or.inl ⟨by rfl, ?_⟩) ?_ ?_
           rotate_left
           ·
            intro w'
            go_simp
            with_reducible rfl
           rotate_left
           ·
            simp only [Act.put, List.setIfInBounds_toArray, List.set_cons_zero, List.set_cons_succ, i64_w, i32_w]
            rfl
           refine done_ (done_of HT_.out (by kernel_rfl)) ?_
           have hnb80 := NB134_135.out
           have hnc80 := NB135_134.out
           have hnb81 := NB134_141.out
           have hnc81 := NB141_134.out
           have hnb82 := NB134_147.out
           have hnc82 := NB147_134.out
           have hcz83_0 : w77.cell? ⟨gb134, 0, none⟩ = some (.int .u64 x135000_2) := (blk_cell BK134.out 0).trans rfl
           have hcz83_1 : w77.cell? ⟨gb134, 1, none⟩ = some (.int .u64 x135001_2) := (blk_cell BK134.out 1).trans rfl
           have hfz83_0 := blk_frozen BK134.out 0
           have hfz83_1 := blk_frozen BK134.out 1
           try go_wp2
           refine bodyPost_ret (results_ct rfl _ _ gb134 24 #[.int .u64 0, .int .u64 0] (0, 0) _ rfl (by (with_reducible repeat (first | refine blk_drewN ?_ _ | refine blk_drew ?_ | refine blk_alloc ?_ _)); refine blk_put (cs := #[.int .u64 0, .int .u64 x135001_2]) ?_ 1 _ rfl; (with_reducible repeat (first | refine blk_drewN ?_ _ | refine blk_drew ?_ | refine blk_alloc ?_ _)); refine blk_put (cs := #[.int .u64 x135000_2, .int .u64 x135001_2]) ?_ 0 _ rfl; (with_reducible repeat (first | refine blk_drewN ?_ _ | refine blk_drew ?_ | refine blk_alloc ?_ _)); refine blk_far ?_ NB134_147.out _; (with_reducible repeat (first | refine blk_drewN ?_ _ | refine blk_drew ?_ | refine blk_alloc ?_ _)); refine blk_far ?_ NB134_147.out _; (with_reducible repeat (first | refine blk_drewN ?_ _ | refine blk_drew ?_ | refine blk_alloc ?_ _)); exact BK134.out) Try.underlying24 rfl (by kernel_rfl)) rfl ?_
           exact ⟨by first | rfl | (simp [errW_none, errW_some] <;> rfl) | (simp [*, errW_none, errW_some] <;> rfl), by repeat (first | (with_reducible first | exact HB.out | apply below_alloc | apply pw_below_drewN | apply below_drew1 | refine below_set ?_ GE134.out | refine below_set ?_ GE135.out | refine below_set ?_ GE141.out | refine below_set ?_ GE147.out) | exact HB.out)⟩
        ·
         rw [if_neg c13] at H
         exact absurd H (by simp)
       ·
        rw [if_neg c12] at H
        exact absurd H (by simp)
      ·
       rw [if_neg c11] at H
       have c11b0 : decide (x26_2 < (a0.size : Int)) = false := decide_eq_false c11
       clear c11
       simp only [Option.some.injEq, Prod.mk.injEq] at H
       obtain ⟨rfl, rfl, rfl⟩ := H
       have hnb84 := NB135_134.out
       have hnc84 := NB134_135.out
       have hcz85_0 : wr.cell? ⟨gb135, 0, none⟩ = some (.int .u64 x136000_2) := (blk_cell BK135.out 0).trans rfl
       have hcz85_1 : wr.cell? ⟨gb135, 1, none⟩ = some (.int .u64 x136001_2) := (blk_cell BK135.out 1).trans rfl
       have hfz85_0 := blk_frozen BK135.out 0
       have hfz85_1 := blk_frozen BK135.out 1
       have hcz86_0 : wr.cell? ⟨gb134, 0, none⟩ = some (.int .u64 x135000_2) := (blk_cell BK134.out 0).trans rfl
       have hcz86_1 : wr.cell? ⟨gb134, 1, none⟩ = some (.int .u64 x135001_2) := (blk_cell BK134.out 1).trans rfl
       have hfz86_0 := blk_frozen BK134.out 0
       have hfz86_1 := blk_frozen BK134.out 1
       go_wp2
       refine bodyPost_ret (results_ct rfl _ _ gb134 24 #[.int .u64 x136000_2, .int .u64 x136001_2] (0, 0) _ rfl (by (with_reducible repeat (first | refine blk_drewN ?_ _ | refine blk_drew ?_ | refine blk_alloc ?_ _)); refine blk_put (cs := #[.int .u64 x136000_2, .int .u64 x135001_2]) ?_ 1 _ rfl; (with_reducible repeat (first | refine blk_drewN ?_ _ | refine blk_drew ?_ | refine blk_alloc ?_ _)); refine blk_put (cs := #[.int .u64 x135000_2, .int .u64 x135001_2]) ?_ 0 _ rfl; (with_reducible repeat (first | refine blk_drewN ?_ _ | refine blk_drew ?_ | refine blk_alloc ?_ _)); exact BK134.out) Try.underlying24 rfl (by kernel_rfl)) rfl ?_
       exact ⟨by first | rfl | (simp [errW_none, errW_some] <;> rfl) | (simp [*, errW_none, errW_some] <;> rfl), by repeat (first | (with_reducible first | exact HB.out | apply below_alloc | apply pw_below_drewN | apply below_drew1 | refine below_set ?_ GE134.out | refine below_set ?_ GE135.out) | exact HB.out)⟩
end Go.Proofs.Ytbpcehbcbcojiaa.T
