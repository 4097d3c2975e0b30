import Derived.Test.YtbpcehbcbcojiaaM3
import Derived.Test.YtbpcehbcbcojiaaEx0
import Derived.Deep.RegionHeld3
import Derived.Deep.DeepCutAuto
namespace Go.Proofs.Ytbpcehbcbcojiaa
open Go.RowKit Go.Proofs.YtbpcehbcbcojiaaW.PrintWords Go.Proofs.YtbpcehbcbcojiaaW.PrintLast
set_option linter.unusedVariables false
set_option linter.unusedSimpArgs false
abbrev bx (x y : Int) : Obj := .cells #[.int .u64 x, .int .u64 y] 24 (0, 0)
abbrev ag (x y : Int) : Value := .agg #[.int .u64 x, .int .u64 y]
set_option maxRecDepth 100000 in
set_option maxHeartbeats 8000000 in
theorem tells_in (a0 a1 b0 b1 s0 s1 d0 d1 cm m0 m1 q0 q1 r0 r1 f0 f1 : Int) (ok up im dv fo : Bool) (w : World)
  (h16 : ∀ w, Calls Try.prog 16 #[ag a0 a1, ag b0 b1] w fun e w' => e = .returned (.tuple #[ag s0 s1, .bool ok]) ∧ Below w.heap.size w w')
  (h21 : ∀ w, Calls Try.prog 21 #[ag a0 a1, ag b0 b1] w fun e w' => e = .returned (.tuple #[ag s0 s1, .bool ok]) ∧ Below w.heap.size w w')
  (h22 : ∀ w, Calls Try.prog 22 #[ag a0 a1, ag b0 b1] w fun e w' => e = .returned (.tuple #[ag d0 d1, .bool up]) ∧ Below w.heap.size w w')
  (h23 : ∀ w, Calls Try.prog 23 #[ag a0 a1, ag b0 b1] w fun e w' => e = .returned (.tuple #[ag d0 d1, .bool up]) ∧ Below w.heap.size w w')
  (h24 : ∀ w, Calls Try.prog 24 #[ag a0 a1, ag b0 b1] w fun e w' => e = .returned (.int .i64 cm) ∧ Below w.heap.size w w')
  (h25 : ∀ w, Calls Try.prog 25 #[ag a0 a1, ag b0 b1] w fun e w' => e = .returned (.int .i64 cm) ∧ Below w.heap.size w w')
  (h17 : ∀ w, Calls Try.prog 17 #[ag a0 a1, ag b0 b1] w fun e w' => e = .returned (.tuple #[ag m0 m1, .bool im]) ∧ Below w.heap.size w w')
  (h26 : ∀ w, Calls Try.prog 26 #[ag a0 a1, ag b0 b1] w fun e w' => e = .returned (.tuple #[ag m0 m1, .bool im]) ∧ Below w.heap.size w w')
  (h20 : ∀ w, Calls Try.prog 20 #[ag a0 a1, ag b0 b1] w fun e w' => e = .returned (.tuple #[ag q0 q1, ag r0 r1, .bool dv]) ∧ Below w.heap.size w w')
  (h27 : ∀ w, Calls Try.prog 27 #[ag a0 a1, ag b0 b1] w fun e w' => e = .returned (.tuple #[ag q0 q1, ag r0 r1, .bool dv]) ∧ Below w.heap.size w w')
  (h26f : ∀ w, Calls Try.prog 26 #[ag 0 a1, ag 0 b0] w fun e w' => e = .returned (.tuple #[ag f0 f1, .bool fo]) ∧ Below w.heap.size w w')
  (h19 : ∀ w, Calls Try.prog 19 #[.int .u64 a1, .int .u64 b0] w fun e w' => e = .returned (ag f0 f1) ∧ Below w.heap.size w w')
  (h18 : ∀ w, Calls Try.prog 18 #[.int .u64 a1] w fun e w' => e = .returned (ag 0 a1) ∧ Below w.heap.size w w')
  (h11 : ∀ w, Calls Try.prog 11 #[] w fun e w' => e = .returned (.bool true) ∧ Below w.heap.size w w') :
  Calls Try.prog 8 #[ag a0 a1, ag b0 b1] w fun e w' => e = .returned (.bool true) ∧ Below w.heap.size w w' := by
 have hu24 := Try.underlying24
 have F16 := Lib.hid h16
 have F21 := Lib.hid h21
 have F22 := Lib.hid h22
 have F23 := Lib.hid h23
 have F24 := Lib.hid h24
 have F25 := Lib.hid h25
 have F17 := Lib.hid h17
 have F26 := Lib.hid h26
 have F20 := Lib.hid h20
 have F27 := Lib.hid h27
 have F26f := Lib.hid h26f
 have F19 := Lib.hid h19
 have F18 := Lib.hid h18
 have F11 := Lib.hid h11
 clear h16 h21 h22 h23 h24 h25 h17 h26 h20 h27 h26f h19 h18 h11
 go_enter Try.func8, Try.ntmps8
 go_upto_region 1 with (fail)
 obtain ⟨v0, hv⟩ : ∃ v, v = (w.alloc (bx a0 a1)).alloc (bx b0 b1) := ⟨_, rfl⟩
 obtain ⟨ga, hga⟩ : ∃ g, g = w.heap.size := ⟨_, rfl⟩
 obtain ⟨gb, hgb⟩ : ∃ g, g = w.heap.size + 1 := ⟨_, rfl⟩
 have Ba0 := Aside0.mk (show v0.heap[ga]? = some (bx a0 a1) by rw [hv, hga]; exact blk_alloc (blk_new _ _) _)
 have Bb0 := Aside0.mk (show v0.heap[gb]? = some (bx b0 b1) by rw [hv, hgb]; exact heap_alloc2_new _ _ _)
 have L0 := Aside0.mk (show Below w.heap.size w v0 by rw [hv]; exact below_alloc (below_alloc (Below.refl _ _) _) _)
 change Code.wp _ _ _ _ ((w.alloc (bx a0 a1)).alloc (bx b0 b1))
 rw [← hv, ← hgb, ← hga]
 clear hv hga hgb
 have ca0 : v0.cell? ⟨ga, 0, none⟩ = some (.int .u64 a0) := (blk_cell Ba0.out 0).trans rfl
 have ca1 : v0.cell? ⟨ga, 1, none⟩ = some (.int .u64 a1) := (blk_cell Ba0.out 1).trans rfl
 have cb0 : v0.cell? ⟨gb, 0, none⟩ = some (.int .u64 b0) := (blk_cell Bb0.out 0).trans rfl
 have cb1 : v0.cell? ⟨gb, 1, none⟩ = some (.int .u64 b1) := (blk_cell Bb0.out 1).trans rfl
 go_upto_region 2 with (go_at_call 16; refine (F16.out _).mono ?_; rintro e w0 ⟨rfl, hb⟩; have HB := Aside0.mk hb; clear hb)
 obtain ⟨v1, hv⟩ : ∃ v, v = (w0.alloc (bx s0 s1)) := ⟨_, rfl⟩
 have Ba1 := Aside0.mk (show v1.heap[ga]? = some (bx a0 a1) by rw [hv]; exact (blk_alloc (blk_below Ba0.out HB.out) _))
 have Bb1 := Aside0.mk (show v1.heap[gb]? = some (bx b0 b1) by rw [hv]; exact (blk_alloc (blk_below Bb0.out HB.out) _))
 obtain ⟨g5, hg0⟩ : ∃ g, g = w0.heap.size := ⟨_, rfl⟩
 have B51 := Aside0.mk (show v1.heap[g5]? = some (bx s0 s1) by rw [hv, hg0]; exact blk_new _ _)
 have L1 := Aside0.mk (show Below w.heap.size w v1 by rw [hv]; exact below_alloc (below_step L0.out HB.out) _)
 change Code.wp _ _ _ _ (w0.alloc (bx s0 s1))
 rw [← hv, ← hg0]
 clear hv hg0 HB L0 Ba0 Bb0 ca0 ca1 cb0 cb1
 have ca0 : v1.cell? ⟨ga, 0, none⟩ = some (.int .u64 a0) := (blk_cell Ba1.out 0).trans rfl
 have ca1 : v1.cell? ⟨ga, 1, none⟩ = some (.int .u64 a1) := (blk_cell Ba1.out 1).trans rfl
 have cb0 : v1.cell? ⟨gb, 0, none⟩ = some (.int .u64 b0) := (blk_cell Bb1.out 0).trans rfl
 have cb1 : v1.cell? ⟨gb, 1, none⟩ = some (.int .u64 b1) := (blk_cell Bb1.out 1).trans rfl
 go_upto_region 3 with (go_at_call 21; refine (F21.out _).mono ?_; rintro e w1 ⟨rfl, hb⟩; have HB := Aside0.mk hb; clear hb)
 obtain ⟨v2, hv⟩ : ∃ v, v = (w1.alloc (bx s0 s1)) := ⟨_, rfl⟩
 have Ba2 := Aside0.mk (show v2.heap[ga]? = some (bx a0 a1) by rw [hv]; exact (blk_alloc (blk_below Ba1.out HB.out) _))
 have Bb2 := Aside0.mk (show v2.heap[gb]? = some (bx b0 b1) by rw [hv]; exact (blk_alloc (blk_below Bb1.out HB.out) _))
 have B52 := Aside0.mk (show v2.heap[g5]? = some (bx s0 s1) by rw [hv]; exact (blk_alloc (blk_below B51.out HB.out) _))
 obtain ⟨g7, hg0⟩ : ∃ g, g = w1.heap.size := ⟨_, rfl⟩
 have B72 := Aside0.mk (show v2.heap[g7]? = some (bx s0 s1) by rw [hv, hg0]; exact blk_new _ _)
 have L2 := Aside0.mk (show Below w.heap.size w v2 by rw [hv]; exact below_alloc (below_step L1.out HB.out) _)
 change Code.wp _ _ _ _ (w1.alloc (bx s0 s1))
 rw [← hv, ← hg0]
 clear hv hg0 HB L1 Ba1 Bb1 B51 ca0 ca1 cb0 cb1
 have ca0 : v2.cell? ⟨ga, 0, none⟩ = some (.int .u64 a0) := (blk_cell Ba2.out 0).trans rfl
 have ca1 : v2.cell? ⟨ga, 1, none⟩ = some (.int .u64 a1) := (blk_cell Ba2.out 1).trans rfl
 have cb0 : v2.cell? ⟨gb, 0, none⟩ = some (.int .u64 b0) := (blk_cell Bb2.out 0).trans rfl
 have cb1 : v2.cell? ⟨gb, 1, none⟩ = some (.int .u64 b1) := (blk_cell Bb2.out 1).trans rfl
 go_upto_region 4 with (go_at_call 22; refine (F22.out _).mono ?_; rintro e w2 ⟨rfl, hb⟩; have HB := Aside0.mk hb; clear hb)
 obtain ⟨v3, hv⟩ : ∃ v, v = (w2.alloc (bx d0 d1)) := ⟨_, rfl⟩
 have Ba3 := Aside0.mk (show v3.heap[ga]? = some (bx a0 a1) by rw [hv]; exact (blk_alloc (blk_below Ba2.out HB.out) _))
 have Bb3 := Aside0.mk (show v3.heap[gb]? = some (bx b0 b1) by rw [hv]; exact (blk_alloc (blk_below Bb2.out HB.out) _))
 have B53 := Aside0.mk (show v3.heap[g5]? = some (bx s0 s1) by rw [hv]; exact (blk_alloc (blk_below B52.out HB.out) _))
 have B73 := Aside0.mk (show v3.heap[g7]? = some (bx s0 s1) by rw [hv]; exact (blk_alloc (blk_below B72.out HB.out) _))
 obtain ⟨g9, hg0⟩ : ∃ g, g = w2.heap.size := ⟨_, rfl⟩
 have B93 := Aside0.mk (show v3.heap[g9]? = some (bx d0 d1) by rw [hv, hg0]; exact blk_new _ _)
 have L3 := Aside0.mk (show Below w.heap.size w v3 by rw [hv]; exact below_alloc (below_step L2.out HB.out) _)
 change Code.wp _ _ _ _ (w2.alloc (bx d0 d1))
 rw [← hv, ← hg0]
 clear hv hg0 HB L2 Ba2 Bb2 B52 B72 ca0 ca1 cb0 cb1
 have ca0 : v3.cell? ⟨ga, 0, none⟩ = some (.int .u64 a0) := (blk_cell Ba3.out 0).trans rfl
 have ca1 : v3.cell? ⟨ga, 1, none⟩ = some (.int .u64 a1) := (blk_cell Ba3.out 1).trans rfl
 have cb0 : v3.cell? ⟨gb, 0, none⟩ = some (.int .u64 b0) := (blk_cell Bb3.out 0).trans rfl
 have cb1 : v3.cell? ⟨gb, 1, none⟩ = some (.int .u64 b1) := (blk_cell Bb3.out 1).trans rfl
 go_upto_region 5 with (go_at_call 23; refine (F23.out _).mono ?_; rintro e w3 ⟨rfl, hb⟩; have HB := Aside0.mk hb; clear hb)
 obtain ⟨v4, hv⟩ : ∃ v, v = (w3.alloc (bx d0 d1)) := ⟨_, rfl⟩
 have Ba4 := Aside0.mk (show v4.heap[ga]? = some (bx a0 a1) by rw [hv]; exact (blk_alloc (blk_below Ba3.out HB.out) _))
 have Bb4 := Aside0.mk (show v4.heap[gb]? = some (bx b0 b1) by rw [hv]; exact (blk_alloc (blk_below Bb3.out HB.out) _))
 have B54 := Aside0.mk (show v4.heap[g5]? = some (bx s0 s1) by rw [hv]; exact (blk_alloc (blk_below B53.out HB.out) _))
 have B74 := Aside0.mk (show v4.heap[g7]? = some (bx s0 s1) by rw [hv]; exact (blk_alloc (blk_below B73.out HB.out) _))
 have B94 := Aside0.mk (show v4.heap[g9]? = some (bx d0 d1) by rw [hv]; exact (blk_alloc (blk_below B93.out HB.out) _))
 obtain ⟨g11, hg0⟩ : ∃ g, g = w3.heap.size := ⟨_, rfl⟩
 have B114 := Aside0.mk (show v4.heap[g11]? = some (bx d0 d1) by rw [hv, hg0]; exact blk_new _ _)
 have L4 := Aside0.mk (show Below w.heap.size w v4 by rw [hv]; exact below_alloc (below_step L3.out HB.out) _)
 change Code.wp _ _ _ _ (w3.alloc (bx d0 d1))
 rw [← hv, ← hg0]
 clear hv hg0 HB L3 Ba3 Bb3 B53 B73 B93 ca0 ca1 cb0 cb1
 have K4 := Lib.hid (show ∀ w', Below v4.heap.size v4 w' → (w'.cell? ⟨ga, 0, none⟩ = some (.int .u64 a0) ∧ w'.cell? ⟨ga, 1, none⟩ = some (.int .u64 a1) ∧ w'.cell? ⟨gb, 0, none⟩ = some (.int .u64 b0) ∧ w'.cell? ⟨gb, 1, none⟩ = some (.int .u64 b1) ∧ w'.cell? ⟨g5, 0, none⟩ = some (.int .u64 s0) ∧ w'.cell? ⟨g5, 1, none⟩ = some (.int .u64 s1) ∧ w'.cell? ⟨g7, 0, none⟩ = some (.int .u64 s0) ∧ w'.cell? ⟨g7, 1, none⟩ = some (.int .u64 s1) ∧ w'.cell? ⟨g9, 0, none⟩ = some (.int .u64 d0) ∧ w'.cell? ⟨g9, 1, none⟩ = some (.int .u64 d1) ∧ w'.cell? ⟨g11, 0, none⟩ = some (.int .u64 d0) ∧ w'.cell? ⟨g11, 1, none⟩ = some (.int .u64 d1) ∧ Below v4.heap.size v4 w') from fun w' h => ⟨(blk_cell (blk_below Ba4.out h) 0).trans rfl, (blk_cell (blk_below Ba4.out h) 1).trans rfl, (blk_cell (blk_below Bb4.out h) 0).trans rfl, (blk_cell (blk_below Bb4.out h) 1).trans rfl, (blk_cell (blk_below B54.out h) 0).trans rfl, (blk_cell (blk_below B54.out h) 1).trans rfl, (blk_cell (blk_below B74.out h) 0).trans rfl, (blk_cell (blk_below B74.out h) 1).trans rfl, (blk_cell (blk_below B94.out h) 0).trans rfl, (blk_cell (blk_below B94.out h) 1).trans rfl, (blk_cell (blk_below B114.out h) 0).trans rfl, (blk_cell (blk_below B114.out h) 1).trans rfl, h⟩)
 have ca0 : v4.cell? ⟨ga, 0, none⟩ = some (.int .u64 a0) := (blk_cell Ba4.out 0).trans rfl
 have ca1 : v4.cell? ⟨ga, 1, none⟩ = some (.int .u64 a1) := (blk_cell Ba4.out 1).trans rfl
 have cb0 : v4.cell? ⟨gb, 0, none⟩ = some (.int .u64 b0) := (blk_cell Bb4.out 0).trans rfl
 have cb1 : v4.cell? ⟨gb, 1, none⟩ = some (.int .u64 b1) := (blk_cell Bb4.out 1).trans rfl
 have c50 : v4.cell? ⟨g5, 0, none⟩ = some (.int .u64 s0) := (blk_cell B54.out 0).trans rfl
 have c51 : v4.cell? ⟨g5, 1, none⟩ = some (.int .u64 s1) := (blk_cell B54.out 1).trans rfl
 have c70 : v4.cell? ⟨g7, 0, none⟩ = some (.int .u64 s0) := (blk_cell B74.out 0).trans rfl
 have c71 : v4.cell? ⟨g7, 1, none⟩ = some (.int .u64 s1) := (blk_cell B74.out 1).trans rfl
 have c90 : v4.cell? ⟨g9, 0, none⟩ = some (.int .u64 d0) := (blk_cell B94.out 0).trans rfl
 have c91 : v4.cell? ⟨g9, 1, none⟩ = some (.int .u64 d1) := (blk_cell B94.out 1).trans rfl
 have c110 : v4.cell? ⟨g11, 0, none⟩ = some (.int .u64 d0) := (blk_cell B114.out 0).trans rfl
 have c111 : v4.cell? ⟨g11, 1, none⟩ = some (.int .u64 d1) := (blk_cell B114.out 1).trans rfl
 have R0 := Aside0.mk (Below.refl v4.heap.size v4)
 go_cut [75] (fun x wc => x = .bool false ∧ Aside0 (Below v4.heap.size v4 wc))
 case first =>
  go_region_held3 (fun w' => w'.cell? ⟨ga, 0, none⟩ = some (.int .u64 a0) ∧ w'.cell? ⟨ga, 1, none⟩ = some (.int .u64 a1) ∧ w'.cell? ⟨gb, 0, none⟩ = some (.int .u64 b0) ∧ w'.cell? ⟨gb, 1, none⟩ = some (.int .u64 b1) ∧ w'.cell? ⟨g5, 0, none⟩ = some (.int .u64 s0) ∧ w'.cell? ⟨g5, 1, none⟩ = some (.int .u64 s1) ∧ w'.cell? ⟨g7, 0, none⟩ = some (.int .u64 s0) ∧ w'.cell? ⟨g7, 1, none⟩ = some (.int .u64 s1) ∧ w'.cell? ⟨g9, 0, none⟩ = some (.int .u64 d0) ∧ w'.cell? ⟨g9, 1, none⟩ = some (.int .u64 d1) ∧ w'.cell? ⟨g11, 0, none⟩ = some (.int .u64 d0) ∧ w'.cell? ⟨g11, 1, none⟩ = some (.int .u64 d1) ∧ Below v4.heap.size v4 w')
   ((refine K4.out _ ?_; repeat (with_reducible first | assumption | exact R0.out | exact R1.out | exact R2.out | apply below_drew1)))
   (first
    | (go_at_call 24; refine (F24.out _).mono ?_; rintro e w1 ⟨rfl, hb1⟩; have R1 := Aside0.mk (below_step (by repeat (with_reducible first | assumption | exact R0.out | apply below_drew1) : Below v4.heap.size v4 _) hb1); clear hb1)
    | (go_at_call 25; refine (F25.out _).mono ?_; rintro e w2 ⟨rfl, hb2⟩; have R2 := Aside0.mk (below_step (by repeat (with_reducible first | assumption | exact R1.out | apply below_drew1) : Below v4.heap.size v4 _) hb2); clear hb2))
  all_goals
   go_wp2
   go_meet
  all_goals exact ⟨rfl, R2⟩
 case rest =>
 obtain ⟨rfl, R3⟩ := hcut
 have Ba5 := Aside0.mk (blk_below Ba4.out R3.out)
 have Bb5 := Aside0.mk (blk_below Bb4.out R3.out)
 have B55 := Aside0.mk (blk_below B54.out R3.out)
 have B75 := Aside0.mk (blk_below B74.out R3.out)
 have B95 := Aside0.mk (blk_below B94.out R3.out)
 have B115 := Aside0.mk (blk_below B114.out R3.out)
 have L5 := Aside0.mk (below_step L4.out R3.out)
 clear ca0 ca1 cb0 cb1 c50 c51 c70 c71 c90 c91 c110 c111 K4 R0 R3 L4 Ba4 Bb4 B54 B74 B94 B114
 generalize wc = v5 at *
 have ca0 : v5.cell? ⟨ga, 0, none⟩ = some (.int .u64 a0) := (blk_cell Ba5.out 0).trans rfl
 have ca1 : v5.cell? ⟨ga, 1, none⟩ = some (.int .u64 a1) := (blk_cell Ba5.out 1).trans rfl
 have cb0 : v5.cell? ⟨gb, 0, none⟩ = some (.int .u64 b0) := (blk_cell Bb5.out 0).trans rfl
 have cb1 : v5.cell? ⟨gb, 1, none⟩ = some (.int .u64 b1) := (blk_cell Bb5.out 1).trans rfl
 go_upto_region 8 with (go_at_call 17; refine (F17.out _).mono ?_; rintro e w5 ⟨rfl, hb⟩; have HB := Aside0.mk hb; clear hb)
 obtain ⟨v6, hv⟩ : ∃ v, v = (w5.alloc (bx m0 m1)) := ⟨_, rfl⟩
 have Ba6 := Aside0.mk (show v6.heap[ga]? = some (bx a0 a1) by rw [hv]; exact (blk_alloc (blk_below Ba5.out HB.out) _))
 have Bb6 := Aside0.mk (show v6.heap[gb]? = some (bx b0 b1) by rw [hv]; exact (blk_alloc (blk_below Bb5.out HB.out) _))
 have B56 := Aside0.mk (show v6.heap[g5]? = some (bx s0 s1) by rw [hv]; exact (blk_alloc (blk_below B55.out HB.out) _))
 have B76 := Aside0.mk (show v6.heap[g7]? = some (bx s0 s1) by rw [hv]; exact (blk_alloc (blk_below B75.out HB.out) _))
 have B96 := Aside0.mk (show v6.heap[g9]? = some (bx d0 d1) by rw [hv]; exact (blk_alloc (blk_below B95.out HB.out) _))
 have B116 := Aside0.mk (show v6.heap[g11]? = some (bx d0 d1) by rw [hv]; exact (blk_alloc (blk_below B115.out HB.out) _))
 obtain ⟨g13, hg0⟩ : ∃ g, g = w5.heap.size := ⟨_, rfl⟩
 have B136 := Aside0.mk (show v6.heap[g13]? = some (bx m0 m1) by rw [hv, hg0]; exact blk_new _ _)
 have L6 := Aside0.mk (show Below w.heap.size w v6 by rw [hv]; exact below_alloc (below_step L5.out HB.out) _)
 change Code.wp _ _ _ _ (w5.alloc (bx m0 m1))
 rw [← hv, ← hg0]
 clear hv hg0 HB L5 Ba5 Bb5 B55 B75 B95 B115 ca0 ca1 cb0 cb1
 have ca0 : v6.cell? ⟨ga, 0, none⟩ = some (.int .u64 a0) := (blk_cell Ba6.out 0).trans rfl
 have ca1 : v6.cell? ⟨ga, 1, none⟩ = some (.int .u64 a1) := (blk_cell Ba6.out 1).trans rfl
 have cb0 : v6.cell? ⟨gb, 0, none⟩ = some (.int .u64 b0) := (blk_cell Bb6.out 0).trans rfl
 have cb1 : v6.cell? ⟨gb, 1, none⟩ = some (.int .u64 b1) := (blk_cell Bb6.out 1).trans rfl
 go_upto_region 9 with (go_at_call 26; refine (F26.out _).mono ?_; rintro e w6 ⟨rfl, hb⟩; have HB := Aside0.mk hb; clear hb)
 obtain ⟨v7, hv⟩ : ∃ v, v = (w6.alloc (bx m0 m1)) := ⟨_, rfl⟩
 have Ba7 := Aside0.mk (show v7.heap[ga]? = some (bx a0 a1) by rw [hv]; exact (blk_alloc (blk_below Ba6.out HB.out) _))
 have Bb7 := Aside0.mk (show v7.heap[gb]? = some (bx b0 b1) by rw [hv]; exact (blk_alloc (blk_below Bb6.out HB.out) _))
 have B57 := Aside0.mk (show v7.heap[g5]? = some (bx s0 s1) by rw [hv]; exact (blk_alloc (blk_below B56.out HB.out) _))
 have B77 := Aside0.mk (show v7.heap[g7]? = some (bx s0 s1) by rw [hv]; exact (blk_alloc (blk_below B76.out HB.out) _))
 have B97 := Aside0.mk (show v7.heap[g9]? = some (bx d0 d1) by rw [hv]; exact (blk_alloc (blk_below B96.out HB.out) _))
 have B117 := Aside0.mk (show v7.heap[g11]? = some (bx d0 d1) by rw [hv]; exact (blk_alloc (blk_below B116.out HB.out) _))
 have B137 := Aside0.mk (show v7.heap[g13]? = some (bx m0 m1) by rw [hv]; exact (blk_alloc (blk_below B136.out HB.out) _))
 obtain ⟨g15, hg0⟩ : ∃ g, g = w6.heap.size := ⟨_, rfl⟩
 have B157 := Aside0.mk (show v7.heap[g15]? = some (bx m0 m1) by rw [hv, hg0]; exact blk_new _ _)
 have L7 := Aside0.mk (show Below w.heap.size w v7 by rw [hv]; exact below_alloc (below_step L6.out HB.out) _)
 change Code.wp _ _ _ _ (w6.alloc (bx m0 m1))
 rw [← hv, ← hg0]
 clear hv hg0 HB L6 Ba6 Bb6 B56 B76 B96 B116 B136 ca0 ca1 cb0 cb1
 have ca0 : v7.cell? ⟨ga, 0, none⟩ = some (.int .u64 a0) := (blk_cell Ba7.out 0).trans rfl
 have ca1 : v7.cell? ⟨ga, 1, none⟩ = some (.int .u64 a1) := (blk_cell Ba7.out 1).trans rfl
 have cb0 : v7.cell? ⟨gb, 0, none⟩ = some (.int .u64 b0) := (blk_cell Bb7.out 0).trans rfl
 have cb1 : v7.cell? ⟨gb, 1, none⟩ = some (.int .u64 b1) := (blk_cell Bb7.out 1).trans rfl
 go_upto_region 10 with (go_at_call 20; refine (F20.out _).mono ?_; rintro e w7 ⟨rfl, hb⟩; have HB := Aside0.mk hb; clear hb)
 obtain ⟨v8, hv⟩ : ∃ v, v = ((w7.alloc (bx q0 q1)).alloc (bx r0 r1)) := ⟨_, rfl⟩
 have Ba8 := Aside0.mk (show v8.heap[ga]? = some (bx a0 a1) by rw [hv]; exact (blk_alloc (blk_alloc (blk_below Ba7.out HB.out) _) _))
 have Bb8 := Aside0.mk (show v8.heap[gb]? = some (bx b0 b1) by rw [hv]; exact (blk_alloc (blk_alloc (blk_below Bb7.out HB.out) _) _))
 have B58 := Aside0.mk (show v8.heap[g5]? = some (bx s0 s1) by rw [hv]; exact (blk_alloc (blk_alloc (blk_below B57.out HB.out) _) _))
 have B78 := Aside0.mk (show v8.heap[g7]? = some (bx s0 s1) by rw [hv]; exact (blk_alloc (blk_alloc (blk_below B77.out HB.out) _) _))
 have B98 := Aside0.mk (show v8.heap[g9]? = some (bx d0 d1) by rw [hv]; exact (blk_alloc (blk_alloc (blk_below B97.out HB.out) _) _))
 have B118 := Aside0.mk (show v8.heap[g11]? = some (bx d0 d1) by rw [hv]; exact (blk_alloc (blk_alloc (blk_below B117.out HB.out) _) _))
 have B138 := Aside0.mk (show v8.heap[g13]? = some (bx m0 m1) by rw [hv]; exact (blk_alloc (blk_alloc (blk_below B137.out HB.out) _) _))
 have B158 := Aside0.mk (show v8.heap[g15]? = some (bx m0 m1) by rw [hv]; exact (blk_alloc (blk_alloc (blk_below B157.out HB.out) _) _))
 obtain ⟨g17, hg0⟩ : ∃ g, g = w7.heap.size := ⟨_, rfl⟩
 obtain ⟨g18, hg1⟩ : ∃ g, g = w7.heap.size + 1 := ⟨_, rfl⟩
 have B178 := Aside0.mk (show v8.heap[g17]? = some (bx q0 q1) by rw [hv, hg0]; exact blk_alloc (blk_new _ _) _)
 have B188 := Aside0.mk (show v8.heap[g18]? = some (bx r0 r1) by rw [hv, hg1]; exact heap_alloc2_new _ _ _)
 have L8 := Aside0.mk (show Below w.heap.size w v8 by rw [hv]; exact below_alloc (below_alloc (below_step L7.out HB.out) _) _)
 change Code.wp _ _ _ _ ((w7.alloc (bx q0 q1)).alloc (bx r0 r1))
 rw [← hv, ← hg1, ← hg0]
 clear hv hg0 hg1 HB L7 Ba7 Bb7 B57 B77 B97 B117 B137 B157 ca0 ca1 cb0 cb1
 have ca0 : v8.cell? ⟨ga, 0, none⟩ = some (.int .u64 a0) := (blk_cell Ba8.out 0).trans rfl
 have ca1 : v8.cell? ⟨ga, 1, none⟩ = some (.int .u64 a1) := (blk_cell Ba8.out 1).trans rfl
 have cb0 : v8.cell? ⟨gb, 0, none⟩ = some (.int .u64 b0) := (blk_cell Bb8.out 0).trans rfl
 have cb1 : v8.cell? ⟨gb, 1, none⟩ = some (.int .u64 b1) := (blk_cell Bb8.out 1).trans rfl
 go_upto_region 11 with (go_at_call 27; refine (F27.out _).mono ?_; rintro e w8 ⟨rfl, hb⟩; have HB := Aside0.mk hb; clear hb)
 obtain ⟨v9, hv⟩ : ∃ v, v = ((w8.alloc (bx q0 q1)).alloc (bx r0 r1)) := ⟨_, rfl⟩
 have Ba9 := Aside0.mk (show v9.heap[ga]? = some (bx a0 a1) by rw [hv]; exact (blk_alloc (blk_alloc (blk_below Ba8.out HB.out) _) _))
 have Bb9 := Aside0.mk (show v9.heap[gb]? = some (bx b0 b1) by rw [hv]; exact (blk_alloc (blk_alloc (blk_below Bb8.out HB.out) _) _))
 have B59 := Aside0.mk (show v9.heap[g5]? = some (bx s0 s1) by rw [hv]; exact (blk_alloc (blk_alloc (blk_below B58.out HB.out) _) _))
 have B79 := Aside0.mk (show v9.heap[g7]? = some (bx s0 s1) by rw [hv]; exact (blk_alloc (blk_alloc (blk_below B78.out HB.out) _) _))
 have B99 := Aside0.mk (show v9.heap[g9]? = some (bx d0 d1) by rw [hv]; exact (blk_alloc (blk_alloc (blk_below B98.out HB.out) _) _))
 have B119 := Aside0.mk (show v9.heap[g11]? = some (bx d0 d1) by rw [hv]; exact (blk_alloc (blk_alloc (blk_below B118.out HB.out) _) _))
 have B139 := Aside0.mk (show v9.heap[g13]? = some (bx m0 m1) by rw [hv]; exact (blk_alloc (blk_alloc (blk_below B138.out HB.out) _) _))
 have B159 := Aside0.mk (show v9.heap[g15]? = some (bx m0 m1) by rw [hv]; exact (blk_alloc (blk_alloc (blk_below B158.out HB.out) _) _))
 have B179 := Aside0.mk (show v9.heap[g17]? = some (bx q0 q1) by rw [hv]; exact (blk_alloc (blk_alloc (blk_below B178.out HB.out) _) _))
 have B189 := Aside0.mk (show v9.heap[g18]? = some (bx r0 r1) by rw [hv]; exact (blk_alloc (blk_alloc (blk_below B188.out HB.out) _) _))
 obtain ⟨g20, hg0⟩ : ∃ g, g = w8.heap.size := ⟨_, rfl⟩
 obtain ⟨g21, hg1⟩ : ∃ g, g = w8.heap.size + 1 := ⟨_, rfl⟩
 have B209 := Aside0.mk (show v9.heap[g20]? = some (bx q0 q1) by rw [hv, hg0]; exact blk_alloc (blk_new _ _) _)
 have B219 := Aside0.mk (show v9.heap[g21]? = some (bx r0 r1) by rw [hv, hg1]; exact heap_alloc2_new _ _ _)
 have L9 := Aside0.mk (show Below w.heap.size w v9 by rw [hv]; exact below_alloc (below_alloc (below_step L8.out HB.out) _) _)
 change Code.wp _ _ _ _ ((w8.alloc (bx q0 q1)).alloc (bx r0 r1))
 rw [← hv, ← hg1, ← hg0]
 clear hv hg0 hg1 HB L8 Ba8 Bb8 B58 B78 B98 B118 B138 B158 B178 B188 ca0 ca1 cb0 cb1
 have ca0 : v9.cell? ⟨ga, 0, none⟩ = some (.int .u64 a0) := (blk_cell Ba9.out 0).trans rfl
 have ca1 : v9.cell? ⟨ga, 1, none⟩ = some (.int .u64 a1) := (blk_cell Ba9.out 1).trans rfl
 have cb0 : v9.cell? ⟨gb, 0, none⟩ = some (.int .u64 b0) := (blk_cell Bb9.out 0).trans rfl
 have cb1 : v9.cell? ⟨gb, 1, none⟩ = some (.int .u64 b1) := (blk_cell Bb9.out 1).trans rfl
 go_upto_region 12 with (go_at_call 26; refine (F26f.out _).mono ?_; rintro e w9 ⟨rfl, hb⟩; have HB := Aside0.mk hb; clear hb)
 obtain ⟨v10, hv⟩ : ∃ v, v = (w9.alloc (bx f0 f1)) := ⟨_, rfl⟩
 have Ba10 := Aside0.mk (show v10.heap[ga]? = some (bx a0 a1) by rw [hv]; exact (blk_alloc (blk_below Ba9.out HB.out) _))
 have Bb10 := Aside0.mk (show v10.heap[gb]? = some (bx b0 b1) by rw [hv]; exact (blk_alloc (blk_below Bb9.out HB.out) _))
 have B510 := Aside0.mk (show v10.heap[g5]? = some (bx s0 s1) by rw [hv]; exact (blk_alloc (blk_below B59.out HB.out) _))
 have B710 := Aside0.mk (show v10.heap[g7]? = some (bx s0 s1) by rw [hv]; exact (blk_alloc (blk_below B79.out HB.out) _))
 have B910 := Aside0.mk (show v10.heap[g9]? = some (bx d0 d1) by rw [hv]; exact (blk_alloc (blk_below B99.out HB.out) _))
 have B1110 := Aside0.mk (show v10.heap[g11]? = some (bx d0 d1) by rw [hv]; exact (blk_alloc (blk_below B119.out HB.out) _))
 have B1310 := Aside0.mk (show v10.heap[g13]? = some (bx m0 m1) by rw [hv]; exact (blk_alloc (blk_below B139.out HB.out) _))
 have B1510 := Aside0.mk (show v10.heap[g15]? = some (bx m0 m1) by rw [hv]; exact (blk_alloc (blk_below B159.out HB.out) _))
 have B1710 := Aside0.mk (show v10.heap[g17]? = some (bx q0 q1) by rw [hv]; exact (blk_alloc (blk_below B179.out HB.out) _))
 have B1810 := Aside0.mk (show v10.heap[g18]? = some (bx r0 r1) by rw [hv]; exact (blk_alloc (blk_below B189.out HB.out) _))
 have B2010 := Aside0.mk (show v10.heap[g20]? = some (bx q0 q1) by rw [hv]; exact (blk_alloc (blk_below B209.out HB.out) _))
 have B2110 := Aside0.mk (show v10.heap[g21]? = some (bx r0 r1) by rw [hv]; exact (blk_alloc (blk_below B219.out HB.out) _))
 obtain ⟨g23, hg0⟩ : ∃ g, g = w9.heap.size := ⟨_, rfl⟩
 have B2310 := Aside0.mk (show v10.heap[g23]? = some (bx f0 f1) by rw [hv, hg0]; exact blk_new _ _)
 have L10 := Aside0.mk (show Below w.heap.size w v10 by rw [hv]; exact below_alloc (below_step L9.out HB.out) _)
 change Code.wp _ _ _ _ (w9.alloc (bx f0 f1))
 rw [← hv, ← hg0]
 clear hv hg0 HB L9 Ba9 Bb9 B59 B79 B99 B119 B139 B159 B179 B189 B209 B219 ca0 ca1 cb0 cb1
 have K10 := Lib.hid (show ∀ w', Below v10.heap.size v10 w' → (w'.cell? ⟨ga, 0, none⟩ = some (.int .u64 a0) ∧ w'.cell? ⟨ga, 1, none⟩ = some (.int .u64 a1) ∧ w'.cell? ⟨gb, 0, none⟩ = some (.int .u64 b0) ∧ w'.cell? ⟨gb, 1, none⟩ = some (.int .u64 b1) ∧ w'.cell? ⟨g13, 0, none⟩ = some (.int .u64 m0) ∧ w'.cell? ⟨g13, 1, none⟩ = some (.int .u64 m1) ∧ w'.cell? ⟨g15, 0, none⟩ = some (.int .u64 m0) ∧ w'.cell? ⟨g15, 1, none⟩ = some (.int .u64 m1) ∧ w'.cell? ⟨g17, 0, none⟩ = some (.int .u64 q0) ∧ w'.cell? ⟨g17, 1, none⟩ = some (.int .u64 q1) ∧ w'.cell? ⟨g18, 0, none⟩ = some (.int .u64 r0) ∧ w'.cell? ⟨g18, 1, none⟩ = some (.int .u64 r1) ∧ w'.cell? ⟨g20, 0, none⟩ = some (.int .u64 q0) ∧ w'.cell? ⟨g20, 1, none⟩ = some (.int .u64 q1) ∧ w'.cell? ⟨g21, 0, none⟩ = some (.int .u64 r0) ∧ w'.cell? ⟨g21, 1, none⟩ = some (.int .u64 r1) ∧ w'.cell? ⟨g23, 0, none⟩ = some (.int .u64 f0) ∧ w'.cell? ⟨g23, 1, none⟩ = some (.int .u64 f1) ∧ Below v10.heap.size v10 w') from fun w' h => ⟨(blk_cell (blk_below Ba10.out h) 0).trans rfl, (blk_cell (blk_below Ba10.out h) 1).trans rfl, (blk_cell (blk_below Bb10.out h) 0).trans rfl, (blk_cell (blk_below Bb10.out h) 1).trans rfl, (blk_cell (blk_below B1310.out h) 0).trans rfl, (blk_cell (blk_below B1310.out h) 1).trans rfl, (blk_cell (blk_below B1510.out h) 0).trans rfl, (blk_cell (blk_below B1510.out h) 1).trans rfl, (blk_cell (blk_below B1710.out h) 0).trans rfl, (blk_cell (blk_below B1710.out h) 1).trans rfl, (blk_cell (blk_below B1810.out h) 0).trans rfl, (blk_cell (blk_below B1810.out h) 1).trans rfl, (blk_cell (blk_below B2010.out h) 0).trans rfl, (blk_cell (blk_below B2010.out h) 1).trans rfl, (blk_cell (blk_below B2110.out h) 0).trans rfl, (blk_cell (blk_below B2110.out h) 1).trans rfl, (blk_cell (blk_below B2310.out h) 0).trans rfl, (blk_cell (blk_below B2310.out h) 1).trans rfl, h⟩)
 have ca0 : v10.cell? ⟨ga, 0, none⟩ = some (.int .u64 a0) := (blk_cell Ba10.out 0).trans rfl
 have ca1 : v10.cell? ⟨ga, 1, none⟩ = some (.int .u64 a1) := (blk_cell Ba10.out 1).trans rfl
 have cb0 : v10.cell? ⟨gb, 0, none⟩ = some (.int .u64 b0) := (blk_cell Bb10.out 0).trans rfl
 have cb1 : v10.cell? ⟨gb, 1, none⟩ = some (.int .u64 b1) := (blk_cell Bb10.out 1).trans rfl
 have c130 : v10.cell? ⟨g13, 0, none⟩ = some (.int .u64 m0) := (blk_cell B1310.out 0).trans rfl
 have c131 : v10.cell? ⟨g13, 1, none⟩ = some (.int .u64 m1) := (blk_cell B1310.out 1).trans rfl
 have c150 : v10.cell? ⟨g15, 0, none⟩ = some (.int .u64 m0) := (blk_cell B1510.out 0).trans rfl
 have c151 : v10.cell? ⟨g15, 1, none⟩ = some (.int .u64 m1) := (blk_cell B1510.out 1).trans rfl
 have c170 : v10.cell? ⟨g17, 0, none⟩ = some (.int .u64 q0) := (blk_cell B1710.out 0).trans rfl
 have c171 : v10.cell? ⟨g17, 1, none⟩ = some (.int .u64 q1) := (blk_cell B1710.out 1).trans rfl
 have c180 : v10.cell? ⟨g18, 0, none⟩ = some (.int .u64 r0) := (blk_cell B1810.out 0).trans rfl
 have c181 : v10.cell? ⟨g18, 1, none⟩ = some (.int .u64 r1) := (blk_cell B1810.out 1).trans rfl
 have c200 : v10.cell? ⟨g20, 0, none⟩ = some (.int .u64 q0) := (blk_cell B2010.out 0).trans rfl
 have c201 : v10.cell? ⟨g20, 1, none⟩ = some (.int .u64 q1) := (blk_cell B2010.out 1).trans rfl
 have c210 : v10.cell? ⟨g21, 0, none⟩ = some (.int .u64 r0) := (blk_cell B2110.out 0).trans rfl
 have c211 : v10.cell? ⟨g21, 1, none⟩ = some (.int .u64 r1) := (blk_cell B2110.out 1).trans rfl
 have c230 : v10.cell? ⟨g23, 0, none⟩ = some (.int .u64 f0) := (blk_cell B2310.out 0).trans rfl
 have c231 : v10.cell? ⟨g23, 1, none⟩ = some (.int .u64 f1) := (blk_cell B2310.out 1).trans rfl
 have R0 := Aside0.mk (Below.refl v10.heap.size v10)
 go_region_held3 (fun w' => w'.cell? ⟨ga, 0, none⟩ = some (.int .u64 a0) ∧ w'.cell? ⟨ga, 1, none⟩ = some (.int .u64 a1) ∧ w'.cell? ⟨gb, 0, none⟩ = some (.int .u64 b0) ∧ w'.cell? ⟨gb, 1, none⟩ = some (.int .u64 b1) ∧ w'.cell? ⟨g13, 0, none⟩ = some (.int .u64 m0) ∧ w'.cell? ⟨g13, 1, none⟩ = some (.int .u64 m1) ∧ w'.cell? ⟨g15, 0, none⟩ = some (.int .u64 m0) ∧ w'.cell? ⟨g15, 1, none⟩ = some (.int .u64 m1) ∧ w'.cell? ⟨g17, 0, none⟩ = some (.int .u64 q0) ∧ w'.cell? ⟨g17, 1, none⟩ = some (.int .u64 q1) ∧ w'.cell? ⟨g18, 0, none⟩ = some (.int .u64 r0) ∧ w'.cell? ⟨g18, 1, none⟩ = some (.int .u64 r1) ∧ w'.cell? ⟨g20, 0, none⟩ = some (.int .u64 q0) ∧ w'.cell? ⟨g20, 1, none⟩ = some (.int .u64 q1) ∧ w'.cell? ⟨g21, 0, none⟩ = some (.int .u64 r0) ∧ w'.cell? ⟨g21, 1, none⟩ = some (.int .u64 r1) ∧ w'.cell? ⟨g23, 0, none⟩ = some (.int .u64 f0) ∧ w'.cell? ⟨g23, 1, none⟩ = some (.int .u64 f1) ∧ Below v10.heap.size v10 w')
  ((refine K10.out _ ?_; repeat (with_reducible first | assumption | exact R0.out | exact R1.out | exact R2.out | exact R3.out | apply below_drew1)))
  (first
   | (go_at_call 19; refine (F19.out _).mono ?_; rintro e w1 ⟨rfl, hb1⟩; have R1 := Aside0.mk (below_step (by repeat (with_reducible first | assumption | exact R0.out | apply below_drew1) : Below v10.heap.size v10 _) hb1); clear hb1)
   | (go_at_call 18; refine (F18.out _).mono ?_; rintro e w2 ⟨rfl, hb2⟩; have R2 := Aside0.mk (below_step (by repeat (with_reducible first | assumption | exact R1.out | apply below_drew1) : Below v10.heap.size v10 _) hb2); clear hb2)
   | (go_at_call 11; refine (F11.out _).mono ?_; rintro e w3 ⟨rfl, hb3⟩; have R3 := Aside0.mk (below_step (by repeat (with_reducible first | assumption | exact R2.out | apply below_drew1) : Below v10.heap.size v10 _) hb3); clear hb3))
 all_goals
  go_wp2
  go_ret
  exact ⟨rfl, below_step L10.out R3.out⟩
end Go.Proofs.Ytbpcehbcbcojiaa
