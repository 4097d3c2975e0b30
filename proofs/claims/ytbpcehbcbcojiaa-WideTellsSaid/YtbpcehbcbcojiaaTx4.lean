import Derived.Test.YtbpcehbcbcojiaaTx0
import Derived.Test.YtbpcehbcbcojiaaTx1
namespace Go.Proofs.Ytbpcehbcbcojiaa.T
open Go.Proofs.Ytbpcehbcbcojiaa.Q Go.RowKit Go.Proofs.YtbpcehbcbcojiaaW.PrintWords Go.Proofs.YtbpcehbcbcojiaaW.PrintLast Go.Proofs.YtbpcehbcbcojiaaW.PrintMore
attribute [local go_sem] max2_int min2_int max_two min_two max_three min_three max_four min_four
set_option linter.unusedVariables false
set_option linter.unusedSimpArgs false
attribute [local go_sem high] eqA24
def wide_Text.l0 : Nat → List Int → Int → Int → Option (ByteArray)
 | 0, _, _, _ => none
 | k + 1, x3, x119000, x119001 => (wide_Of.f 10).bind fun bt119 => ((wide_Div.f x119000 x119001 bt119.1 bt119.2).bind fun bt121 => ((some (([(48 + ((bt121.2.2.2.1) % 256)) % 256] : List Int) : List Int)).bind fun y128 => (if y128.length + x3.length < 140737488355328 then ((some (y128 ++ x3 : List Int)).bind fun y131 => (if (bt121.1 == 0 && (bt121.2.1 == 0)) = true then (some (strOfNums y131)) else (wide_Text.l0 k y131 bt121.1 bt121.2.1))) else (none))))
def wide_Text.f (k : Nat) (a0_0 : Int) (a0_1 : Int) : Option (ByteArray) := wide_Text.l0 k ([] : List Int) a0_0 a0_1
def wide_Text.T2 : Bool × List (List Nat × List Nat) := (true, [([], []), ([], []), ([0, 1, 1], [0, 1]), ([2], [2]), ([3], [3]), ([3], [3]), ([3], [3]), ([], []), ([], []), ([7, 4, 2, 0, 1, 2, 3, 4, 7, 8], [4, 7]), ([8, 5, 9, 0, 1, 2, 3, 4, 5, 7, 8, 9], [5, 8]), ([6, 10, 0, 1, 2, 3, 4, 5, 6, 7, 8, 9, 10], [6])])
def wide_Text.B2 : List Nat := [0, 0, 3, 7, 15, 15, 15, 0, 0, 415, 959, 2047]
theorem wide_Text.tab2 : rtab .any (opsOf Try.f14 2) = wide_Text.T2 := by kernel_rfl
theorem wide_Text.bits2 : waitsOk wide_Text.T2.2 wide_Text.B2 = true := by kernel_rfl
set_option maxHeartbeats 8000000 in
set_option maxRecDepth 100000 in
theorem wide_Text.calls (k : Nat) (a0_0 : Int) (a0_1 : Int) (r : ByteArray) (w : World) (h : wide_Text.f k a0_0 a0_1 = some r) :
  Calls Try.prog 14 #[.agg #[.int .u64 a0_0, .int .u64 a0_1]] w fun e w' => e = .returned (.string r) ∧ Below w.heap.size w w' := by
 have hu24 := Try.underlying24
 have HB := Aside0.mk (Below.refl w.heap.size w)
 have H : (wide_Text.l0 k ([] : List Int) a0_0 a0_1) = some r := h
 clear h
 have H' := Aside0.mk H
 clear H
 go_enter Try.func14, Try.ntmps14
 go_wp2_with (first | ((with_reducible refine gate_dst (N := 1) rfl ?_); refine box_event ?hg (N := 1) ?hd (cs := #[.int .u64 a0_0, .int .u64 a0_1]) (t := 24) ?hr ?_; (case hd => rfl); (case hg => rfl); (case hr => first | (go_simp; done) | (go_simp; rfl)); intro gb118 hg w2 hbox hb; have n0_ := Aside0.mk (below_step (bW HB.out) hb); have n1_ := Aside0.mk (hbox); have n2_ := Aside0.mk ((by rw [hg]; exact (below_size (bW HB.out)) : w.heap.size ≤ gb118)); have n3_ := Aside0.mk ((by rw [hg]; exact (below_size (bW HB.out)) : w.heap.size ≤ gb118)); clear HB; have HB := n0_; have BK118 := n1_; have GW118 := n2_; have GE118 := n3_; clear n0_ n1_ n2_ n3_ hb hbox hg))
 go_loopg [3] k (fun kq v3 w' => ∃ (x3_1 : List Int) (x119000_1 : Int) (x119001_1 : Int), Aside0 (wide_Text.l0 kq x3_1 x119000_1 x119001_1 = some r) ∧ Aside0 (kq ≤ k) ∧ Aside0 (Kd.R (Kd.int .u8) 5 w' w.heap.size (fun _ => True) v3 x3_1) ∧ Aside0 (w'.heap[gb118]? = some (.cells #[.int .u64 x119000_1, .int .u64 x119001_1] 24 (0, 0))) ∧ Aside0 (Below w.heap.size w w'))
 case atStart => exact ⟨(([] : List Int)), (a0_0), (a0_1), H', ⟨Nat.le_refl _⟩, ⟨by first | exact Kd.R_nil _ _ _ _ _ | exact Kd.N_nil _ _ _ _ _ | exact Kd.V_nil _ _ _ _ _ | exact Kd.Q_nil _ _ _ _ _ | exact Kd.S_nil _ _ _ _ _⟩, ⟨by (with_reducible repeat (first | refine blk_drewN ?_ _ | refine blk_drew ?_ | refine blk_alloc ?_ _)); exact BK118.out⟩, ⟨by repeat (first | (with_reducible first | exact HB.out | apply below_alloc | apply pw_below_drewN | apply below_drew1 | refine below_set ?_ GE118.out) | exact HB.out)⟩⟩
 case round =>
  clear H'
  try clear c1
  try clear p2
  obtain ⟨x3_1, x119000_1, x119001_1, HA, HK1, HO_3, BK118, HB⟩ := hrel
  cases gk with
  | zero => exact absurd HA.out (by simp [wide_Text.l0])
  | succ k1 =>
   have H := HA.out
   clear HA
   simp only [wide_Text.l0] at H
   replace H := Option.bind_eq_some_iff.mp H
   obtain ⟨⟨t119, t120⟩, A30, H⟩ := H
   replace H : ((wide_Div.f x119000_1 x119001_1 t119 t120).bind fun bt121 => ((some (([(48 + ((bt121.2.2.2.1) % 256)) % 256] : List Int) : List Int)).bind fun y128 => (if y128.length + x3_1.length < 140737488355328 then ((some (y128 ++ x3_1 : List Int)).bind fun y131 => (if (bt121.1 == 0 && (bt121.2.1 == 0)) = true then (some (strOfNums y131)) else (wide_Text.l0 k1 y131 bt121.1 bt121.2.1))) else (none)))) = some r := H
   have A3 := Aside0.mk A30
   clear A30
   replace H := Option.bind_eq_some_iff.mp H
   obtain ⟨⟨t121, t122, t123, t124, t125⟩, A40, H⟩ := H
   replace H : ((some (([(48 + ((t124) % 256)) % 256] : List Int) : List Int)).bind fun y128 => (if y128.length + x3_1.length < 140737488355328 then ((some (y128 ++ x3_1 : List Int)).bind fun y131 => (if (t121 == 0 && (t122 == 0)) = true then (some (strOfNums y131)) else (wide_Text.l0 k1 y131 t121 t122))) else (none))) = some r := H
   have A4 := Aside0.mk A40
   clear A40
   obtain ⟨y128, hy128⟩ : ∃ y_ : List Int, y_ = (([(48 + ((t124) % 256)) % 256] : List Int)) := ⟨_, rfl⟩
   replace H : (if y128.length + x3_1.length < 140737488355328 then ((some (y128 ++ x3_1 : List Int)).bind fun y131 => (if (t121 == 0 && (t122 == 0)) = true then (some (strOfNums y131)) else (wide_Text.l0 k1 y131 t121 t122))) else (none)) = some r := by first | (rw [hy128]; with_reducible exact H) | (have H2_ := (Option.bind_some _ _).symm.trans H; rw [hy128]; with_reducible exact H2_) | (have H2_ := (Option.bind_some _ _).symm.trans H; with_reducible exact H2_) | with_reducible exact H | (rw [hy128]; exact H) | exact H
   have Ny128 := Aside0.mk hy128
   clear hy128
   by_cases c5 : y128.length + x3_1.length < 140737488355328
   ·
    rw [if_pos c5] at H
    have LMc5 := Aside0.mk c5
    clear c5
    obtain ⟨y131, hy131⟩ : ∃ y_ : List Int, y_ = (y128 ++ x3_1) := ⟨_, rfl⟩
    replace H : (if (t121 == 0 && (t122 == 0)) = true then (some (strOfNums y131)) else (wide_Text.l0 k1 y131 t121 t122)) = some r := by first | (rw [hy131]; with_reducible exact H) | (have H2_ := (Option.bind_some _ _).symm.trans H; rw [hy131]; with_reducible exact H2_) | (have H2_ := (Option.bind_some _ _).symm.trans H; with_reducible exact H2_) | with_reducible exact H | (rw [hy131]; exact H) | exact H
    have Ny131 := Aside0.mk hy131
    clear hy131
    by_cases c6 : (t121 == 0 && (t122 == 0)) = true
    ·
     rw [if_pos c6] at H
     have c6b0 : (t121 == 0 && (t122 == 0)) = true := c6
     (try (have c6b1 : decide (t121 = 0 && (t122 == 0)) = true := by simpa using c6))
     (try (have c6b2 : (t121 == 0 && (t122 == 0)) = true := by simpa using c6))
     clear c6
     obtain rfl := Option.some.inj H
     try go_wp2
     have n0_ := Aside0.mk (Kd.R_drew HO_3.out)
     have n1_ := Aside0.mk (blk_drew BK118.out)
     have n2_ := Aside0.mk (below_drew1 HB.out)
     clear HO_3 BK118 HB
     have HO_3 := n0_
     have BK118 := n1_
     have HB := n2_
     clear n0_ n1_ n2_
     refine start_ (n := 12) (S := fun w' => w'.cell? ⟨gb118, 0, none⟩ = some (.int .u64 x119000_1) ∧ w'.cell? ⟨gb118, 1, none⟩ = some (.int .u64 x119001_1)) (ds := []) #[false, false, false, false, false, false, false, false, false, false, false, false] (by kernel_rfl) rfl rfl ⟨(blk_cell BK118.out 0).trans rfl, (blk_cell BK118.out 1).trans rfl⟩ (fun hHeld => ?_); refine with_tabW wide_Text.tab2 wide_Text.bits2 (fun HT_ HW_ => ?_)
     generalize wr.drew = w7 at HO_3 BK118 HB hHeld ⊢
     refine take_ (i := 0) (N := some 8) (v := ?_) (a' := ?_) #[true, false, false, false, false, false, false, false, false, false, false, false] rfl rfl (take_ofW HT_.out HW_.out (by kernel_rfl)) (fun _ _ _ h => h) (Or.inl ⟨by rfl, ?_⟩) hHeld ?_ ?_
     rotate_left
     ·
      rintro w' ⟨s0, s1⟩
      go_simp
      with_reducible rfl
     rotate_left
     ·
      simp only [Act.put, List.setIfInBounds_toArray, List.set_cons_zero, List.set_cons_succ, i64_w, i32_w]
      rfl
     refine join_ (σ := Nat × Nat) 3 #[true, true, true, true, true, true, true, true, true, false, false, false] (fun s_ => [(9, .agg #[.int .u64 t119, .int .u64 t120]), (10, .tuple #[.agg #[.int .u64 t121, .int .u64 t122], .agg #[.int .u64 t123, .int .u64 t124], .bool t125]), (4, .pointer (some ⟨s_.1, 0, none⟩)), (5, .pointer (some ⟨s_.2, 0, none⟩)), (7, .tuple #[.agg #[.int .u64 t121, .int .u64 t122], .agg #[.int .u64 t123, .int .u64 t124], .bool t125]), (11, .agg #[.int .u64 t121, .int .u64 t122]), (12, .agg #[.int .u64 t123, .int .u64 t124]), (13, .bool t125)]) (fun s_ w' => (w'.cell? ⟨gb118, 0, none⟩ = some (.int .u64 x119000_1) ∧ w'.cell? ⟨gb118, 1, none⟩ = some (.int .u64 x119001_1)) ∧ (Kd.R (Kd.int .u8) 5 w' w.heap.size (fun _ => True) u3 x3_1) ∧ (w'.heap[gb118]? = some (.cells #[.int .u64 x119000_1, .int .u64 x119001_1] 24 (0, 0))) ∧ (w'.heap[s_.1]? = some (.cells #[.int .u64 0, .int .u64 0] 24 (0, 0))) ∧ (w'.heap[s_.2]? = some (.cells #[.int .u64 0, .int .u64 0] 24 (0, 0))) ∧ (w.heap.size ≤ s_.1) ∧ (w.heap.size ≤ s_.1) ∧ (gb118 ≠ s_.1) ∧ (s_.1 ≠ gb118) ∧ (s_.2 ≠ s_.1) ∧ (s_.1 ≠ s_.2) ∧ (w.heap.size ≤ s_.2) ∧ (w.heap.size ≤ s_.2) ∧ (gb118 ≠ s_.2) ∧ (s_.2 ≠ gb118) ∧ (Below w.heap.size w w')) ?_ ?_
     rotate_left
     ·
      intro hJ1_2_7_8
      refine join_ (σ := Nat) 4 #[true, true, true, true, true, true, true, true, false, false, false, false] (fun s_ => [(9, .agg #[.int .u64 t119, .int .u64 t120]), (10, .tuple #[.agg #[.int .u64 t121, .int .u64 t122], .agg #[.int .u64 t123, .int .u64 t124], .bool t125]), (4, .pointer (some ⟨s_, 0, none⟩)), (7, .tuple #[.agg #[.int .u64 t121, .int .u64 t122], .agg #[.int .u64 t123, .int .u64 t124], .bool t125]), (11, .agg #[.int .u64 t121, .int .u64 t122]), (12, .agg #[.int .u64 t123, .int .u64 t124]), (13, .bool t125)]) (fun s_ w' => (w'.cell? ⟨gb118, 0, none⟩ = some (.int .u64 x119000_1) ∧ w'.cell? ⟨gb118, 1, none⟩ = some (.int .u64 x119001_1)) ∧ (Kd.R (Kd.int .u8) 5 w' w.heap.size (fun _ => True) u3 x3_1) ∧ (w'.heap[gb118]? = some (.cells #[.int .u64 x119000_1, .int .u64 x119001_1] 24 (0, 0))) ∧ (w'.heap[s_]? = some (.cells #[.int .u64 0, .int .u64 0] 24 (0, 0))) ∧ (w.heap.size ≤ s_) ∧ (w.heap.size ≤ s_) ∧ (gb118 ≠ s_) ∧ (s_ ≠ gb118) ∧ (Below w.heap.size w w')) ?_ ?_
      rotate_left
      ·
       intro hJ1_2_7
       refine join_ (σ := Nat) 4 #[true, true, true, true, true, true, true, false, true, false, false, false] (fun s_ => [(9, .agg #[.int .u64 t119, .int .u64 t120]), (10, .tuple #[.agg #[.int .u64 t121, .int .u64 t122], .agg #[.int .u64 t123, .int .u64 t124], .bool t125]), (5, .pointer (some ⟨s_, 0, none⟩)), (7, .tuple #[.agg #[.int .u64 t121, .int .u64 t122], .agg #[.int .u64 t123, .int .u64 t124], .bool t125]), (11, .agg #[.int .u64 t121, .int .u64 t122]), (12, .agg #[.int .u64 t123, .int .u64 t124]), (13, .bool t125)]) (fun s_ w' => (w'.cell? ⟨gb118, 0, none⟩ = some (.int .u64 x119000_1) ∧ w'.cell? ⟨gb118, 1, none⟩ = some (.int .u64 x119001_1)) ∧ (Kd.R (Kd.int .u8) 5 w' w.heap.size (fun _ => True) u3 x3_1) ∧ (w'.heap[gb118]? = some (.cells #[.int .u64 x119000_1, .int .u64 x119001_1] 24 (0, 0))) ∧ (w'.heap[s_]? = some (.cells #[.int .u64 0, .int .u64 0] 24 (0, 0))) ∧ (w.heap.size ≤ s_) ∧ (w.heap.size ≤ s_) ∧ (gb118 ≠ s_) ∧ (s_ ≠ gb118) ∧ (Below w.heap.size w w')) ?_ ?_
       rotate_left
       ·
        intro hJ1_2_8
        refine join_ (σ := Nat × Nat) 8 #[true, true, false, false, false, false, false, true, true, false, false, false] (fun s_ => [(9, .agg #[.int .u64 t119, .int .u64 t120]), (4, .pointer (some ⟨s_.1, 0, none⟩)), (5, .pointer (some ⟨s_.2, 0, none⟩))]) (fun s_ w' => (w'.cell? ⟨gb118, 0, none⟩ = some (.int .u64 x119000_1) ∧ w'.cell? ⟨gb118, 1, none⟩ = some (.int .u64 x119001_1)) ∧ (Kd.R (Kd.int .u8) 5 w' w.heap.size (fun _ => True) u3 x3_1) ∧ (w'.heap[gb118]? = some (.cells #[.int .u64 x119000_1, .int .u64 x119001_1] 24 (0, 0))) ∧ (w'.heap[s_.1]? = some (.cells #[.int .u64 0, .int .u64 0] 24 (0, 0))) ∧ (w'.heap[s_.2]? = some (.cells #[.int .u64 0, .int .u64 0] 24 (0, 0))) ∧ (w.heap.size ≤ s_.1) ∧ (w.heap.size ≤ s_.1) ∧ (gb118 ≠ s_.1) ∧ (s_.1 ≠ gb118) ∧ (s_.2 ≠ s_.1) ∧ (s_.1 ≠ s_.2) ∧ (w.heap.size ≤ s_.2) ∧ (w.heap.size ≤ s_.2) ∧ (gb118 ≠ s_.2) ∧ (s_.2 ≠ gb118) ∧ (Below w.heap.size w w')) ?_ ?_
        rotate_left
        ·
         intro hJ1_7_8
         refine join_ (σ := Unit) 5 #[true, true, true, true, true, true, true, false, false, false, false, false] (fun s_ => [(9, .agg #[.int .u64 t119, .int .u64 t120]), (10, .tuple #[.agg #[.int .u64 t121, .int .u64 t122], .agg #[.int .u64 t123, .int .u64 t124], .bool t125]), (7, .tuple #[.agg #[.int .u64 t121, .int .u64 t122], .agg #[.int .u64 t123, .int .u64 t124], .bool t125]), (11, .agg #[.int .u64 t121, .int .u64 t122]), (12, .agg #[.int .u64 t123, .int .u64 t124]), (13, .bool t125)]) (fun s_ w' => (w'.cell? ⟨gb118, 0, none⟩ = some (.int .u64 x119000_1) ∧ w'.cell? ⟨gb118, 1, none⟩ = some (.int .u64 x119001_1)) ∧ (Kd.R (Kd.int .u8) 5 w' w.heap.size (fun _ => True) u3 x3_1) ∧ (w'.heap[gb118]? = some (.cells #[.int .u64 x119000_1, .int .u64 x119001_1] 24 (0, 0))) ∧ (Below w.heap.size w w')) ?_ ?_
         rotate_left
         ·
          intro hJ1_2
          refine join_ (σ := Nat) 9 #[true, true, false, false, false, false, false, true, false, false, false, false] (fun s_ => [(9, .agg #[.int .u64 t119, .int .u64 t120]), (4, .pointer (some ⟨s_, 0, none⟩))]) (fun s_ w' => (w'.cell? ⟨gb118, 0, none⟩ = some (.int .u64 x119000_1) ∧ w'.cell? ⟨gb118, 1, none⟩ = some (.int .u64 x119001_1)) ∧ (Kd.R (Kd.int .u8) 5 w' w.heap.size (fun _ => True) u3 x3_1) ∧ (w'.heap[gb118]? = some (.cells #[.int .u64 x119000_1, .int .u64 x119001_1] 24 (0, 0))) ∧ (w'.heap[s_]? = some (.cells #[.int .u64 0, .int .u64 0] 24 (0, 0))) ∧ (w.heap.size ≤ s_) ∧ (w.heap.size ≤ s_) ∧ (gb118 ≠ s_) ∧ (s_ ≠ gb118) ∧ (Below w.heap.size w w')) ?_ ?_
          rotate_left
          ·
           intro hJ1_7
           refine join_ (σ := Nat) 9 #[true, true, false, false, false, false, false, false, true, false, false, false] (fun s_ => [(9, .agg #[.int .u64 t119, .int .u64 t120]), (5, .pointer (some ⟨s_, 0, none⟩))]) (fun s_ w' => (w'.cell? ⟨gb118, 0, none⟩ = some (.int .u64 x119000_1) ∧ w'.cell? ⟨gb118, 1, none⟩ = some (.int .u64 x119001_1)) ∧ (Kd.R (Kd.int .u8) 5 w' w.heap.size (fun _ => True) u3 x3_1) ∧ (w'.heap[gb118]? = some (.cells #[.int .u64 x119000_1, .int .u64 x119001_1] 24 (0, 0))) ∧ (w'.heap[s_]? = some (.cells #[.int .u64 0, .int .u64 0] 24 (0, 0))) ∧ (w.heap.size ≤ s_) ∧ (w.heap.size ≤ s_) ∧ (gb118 ≠ s_) ∧ (s_ ≠ gb118) ∧ (Below w.heap.size w w')) ?_ ?_
           rotate_left
           ·
            intro hJ1_8
            refine join_ (σ := Nat × Nat) 9 #[true, false, false, false, false, false, false, true, true, false, false, false] (fun s_ => [(4, .pointer (some ⟨s_.1, 0, none⟩)), (5, .pointer (some ⟨s_.2, 0, none⟩))]) (fun s_ w' => (w'.cell? ⟨gb118, 0, none⟩ = some (.int .u64 x119000_1) ∧ w'.cell? ⟨gb118, 1, none⟩ = some (.int .u64 x119001_1)) ∧ (Kd.R (Kd.int .u8) 5 w' w.heap.size (fun _ => True) u3 x3_1) ∧ (w'.heap[gb118]? = some (.cells #[.int .u64 x119000_1, .int .u64 x119001_1] 24 (0, 0))) ∧ (w'.heap[s_.1]? = some (.cells #[.int .u64 0, .int .u64 0] 24 (0, 0))) ∧ (w'.heap[s_.2]? = some (.cells #[.int .u64 0, .int .u64 0] 24 (0, 0))) ∧ (w.heap.size ≤ s_.1) ∧ (w.heap.size ≤ s_.1) ∧ (gb118 ≠ s_.1) ∧ (s_.1 ≠ gb118) ∧ (s_.2 ≠ s_.1) ∧ (s_.1 ≠ s_.2) ∧ (w.heap.size ≤ s_.2) ∧ (w.heap.size ≤ s_.2) ∧ (gb118 ≠ s_.2) ∧ (s_.2 ≠ gb118) ∧ (Below w.heap.size w w')) ?_ ?_
            rotate_left
            ·
             intro hJ7_8
             refine join_ (σ := Unit) 10 #[true, true, false, false, false, false, false, false, false, false, false, false] (fun s_ => [(9, .agg #[.int .u64 t119, .int .u64 t120])]) (fun s_ w' => (w'.cell? ⟨gb118, 0, none⟩ = some (.int .u64 x119000_1) ∧ w'.cell? ⟨gb118, 1, none⟩ = some (.int .u64 x119001_1)) ∧ (Kd.R (Kd.int .u8) 5 w' w.heap.size (fun _ => True) u3 x3_1) ∧ (w'.heap[gb118]? = some (.cells #[.int .u64 x119000_1, .int .u64 x119001_1] 24 (0, 0))) ∧ (Below w.heap.size w w')) ?_ ?_
             rotate_left
             ·
              intro hJ1
              refine join_ (σ := Nat) 10 #[true, false, false, false, false, false, false, true, false, false, false, false] (fun s_ => [(4, .pointer (some ⟨s_, 0, none⟩))]) (fun s_ w' => (w'.cell? ⟨gb118, 0, none⟩ = some (.int .u64 x119000_1) ∧ w'.cell? ⟨gb118, 1, none⟩ = some (.int .u64 x119001_1)) ∧ (Kd.R (Kd.int .u8) 5 w' w.heap.size (fun _ => True) u3 x3_1) ∧ (w'.heap[gb118]? = some (.cells #[.int .u64 x119000_1, .int .u64 x119001_1] 24 (0, 0))) ∧ (w'.heap[s_]? = some (.cells #[.int .u64 0, .int .u64 0] 24 (0, 0))) ∧ (w.heap.size ≤ s_) ∧ (w.heap.size ≤ s_) ∧ (gb118 ≠ s_) ∧ (s_ ≠ gb118) ∧ (Below w.heap.size w w')) ?_ ?_
              rotate_left
              ·
               intro hJ7
               refine join_ (σ := Nat) 10 #[true, false, false, false, false, false, false, false, true, false, false, false] (fun s_ => [(5, .pointer (some ⟨s_, 0, none⟩))]) (fun s_ w' => (w'.cell? ⟨gb118, 0, none⟩ = some (.int .u64 x119000_1) ∧ w'.cell? ⟨gb118, 1, none⟩ = some (.int .u64 x119001_1)) ∧ (Kd.R (Kd.int .u8) 5 w' w.heap.size (fun _ => True) u3 x3_1) ∧ (w'.heap[gb118]? = some (.cells #[.int .u64 x119000_1, .int .u64 x119001_1] 24 (0, 0))) ∧ (w'.heap[s_]? = some (.cells #[.int .u64 0, .int .u64 0] 24 (0, 0))) ∧ (w.heap.size ≤ s_) ∧ (w.heap.size ≤ s_) ∧ (gb118 ≠ s_) ∧ (s_ ≠ gb118) ∧ (Below w.heap.size w w')) ?_ ?_
               rotate_left
               ·
                intro hJ8
                refine three_ (i := 1) (j := 7) (k := 8) (Ni := some 9) (Nj := some 4) (Nk := some 5) #[true, true, false, false, false, false, false, false, false, false, false, false] #[true, false, false, false, false, false, false, true, false, false, false, false] #[true, false, false, false, false, false, false, false, true, false, false, false] rfl rfl rfl rfl rfl rfl (three_of HT_.out (by kernel_rfl)) (by decide) (by decide) (by decide) (fun K hK => ?_) (fun K hK => ?_) (fun K hK => ?_)
                ·
                 skip
                 refine goes_ Try.func18 (by kernel_rfl) rfl #[.int .u64 10] (by rfl) rfl rfl (by (try simp only [List.map_toArray, List.map_cons, List.map_nil]); first | done | rfl | (simp only [List.length_drop, List.length_take]; rfl)) ?_
                 with_reducible refine (wide_Of.calls 10 t119 t120 _ A3.out).mono ?_
                 rintro e w8 ⟨rfl, hb⟩
                 refine ⟨_, rfl, ?_⟩
                 have n0_ := Aside0.mk (Kd.R_below (by (with_reducible repeat (first | apply Kd.R_alloc | apply Kd.R_drewN | apply Kd.R_drew)); exact HO_3.out) hb)
                 have n1_ := Aside0.mk (blk_below (bT BK118.out) hb)
                 have n2_ := Aside0.mk (below_step (bW HB.out) hb)
                 clear HO_3 BK118 HB
                 have HO_3 := n0_
                 have BK118 := n1_
                 have HB := n2_
                 clear n0_ n1_ n2_
                 (try clear hb)
                 (try clear hb2)
                 (try clear hk)
                 (try clear hi)
                 refine hK.out _ _ ⟨(blk_cell BK118.out 0).trans rfl, (blk_cell BK118.out 1).trans rfl⟩ (fun hHeld => ?_)
                 clear hK K
                 refine norm_ (a' := ?_) ?_ ?_
                 rotate_left
                 ·
                  show Act.put _ (some 9) _ = _
                  simp only [Act.put, List.setIfInBounds_toArray, List.set_cons_zero, List.set_cons_succ, i64_w, i32_w]
                  rfl
                 exact norm_ (by first | (simp only [putAll, Act.put, List.setIfInBounds_toArray, List.set_cons_zero, List.set_cons_succ]; done) | (simp only [putAll, Act.put, List.setIfInBounds_toArray, List.set_cons_zero, List.set_cons_succ]; rfl)) (hJ1 () _ ⟨hHeld, (by (with_reducible repeat (first | apply Kd.R_alloc | apply Kd.R_drewN | apply Kd.R_drew)); exact HO_3.out), (bT BK118.out), (bW HB.out)⟩)
                ·
                 skip
                 refine box_step ?hg (N := 4) ?hd (cs := #[.int .u64 0, .int .u64 0]) (t := 24) ?hr ?_; (case hd => rfl); (case hg => rfl); (case hr => first | (go_simp; done) | (go_simp; rfl))
                 intro gb126 hg w8 hbox hb
                 have n0_ := Aside0.mk (Kd.R_below (by (with_reducible repeat (first | apply Kd.R_alloc | apply Kd.R_drewN | apply Kd.R_drew)); exact HO_3.out) hb)
                 have n1_ := Aside0.mk (blk_below (bT BK118.out) hb)
                 have n2_ := Aside0.mk (below_step (bW HB.out) hb)
                 have n3_ := Aside0.mk (hbox)
                 have n4_ := Aside0.mk ((by rw [hg]; exact (below_size (bW HB.out)) : w.heap.size ≤ gb126))
                 have n5_ := Aside0.mk ((by rw [hg]; exact (below_size (bW HB.out)) : w.heap.size ≤ gb126))
                 have n6_ := Aside0.mk ((by rw [hg]; exact Nat.ne_of_lt (blk_lt (bT BK118.out)) : gb118 ≠ gb126))
                 have n7_ := Aside0.mk ((by rw [hg]; exact Nat.ne_of_gt (blk_lt (bT BK118.out)) : gb126 ≠ gb118))
                 clear HO_3 BK118 HB
                 have HO_3 := n0_
                 have BK118 := n1_
                 have HB := n2_
                 have BK126 := n3_
                 have GW126 := n4_
                 have GE126 := n5_
                 have NB118_126 := n6_
                 have NB126_118 := n7_
                 clear n0_ n1_ n2_ n3_ n4_ n5_ n6_ n7_ hb hbox hg
                 refine hK.out _ _ ⟨(blk_cell BK118.out 0).trans rfl, (blk_cell BK118.out 1).trans rfl⟩ (fun hHeld => ?_)
                 clear hK K
                 refine norm_ (a' := ?_) ?_ ?_
                 rotate_left
                 ·
                  show Act.put _ (some 4) _ = _
                  simp only [Act.put, List.setIfInBounds_toArray, List.set_cons_zero, List.set_cons_succ, i64_w, i32_w]
                  rfl
                 exact norm_ (by first | (simp only [putAll, Act.put, List.setIfInBounds_toArray, List.set_cons_zero, List.set_cons_succ]; done) | (simp only [putAll, Act.put, List.setIfInBounds_toArray, List.set_cons_zero, List.set_cons_succ]; rfl)) (hJ7 (gb126) _ ⟨hHeld, (by (with_reducible repeat (first | apply Kd.R_alloc | apply Kd.R_drewN | apply Kd.R_drew)); exact HO_3.out), (bT BK118.out), (bT BK126.out), GW126.out, GE126.out, NB118_126.out, NB126_118.out, (bW HB.out)⟩)
                ·
                 skip
                 refine box_step ?hg (N := 5) ?hd (cs := #[.int .u64 0, .int .u64 0]) (t := 24) ?hr ?_; (case hd => rfl); (case hg => rfl); (case hr => first | (go_simp; done) | (go_simp; rfl))
                 intro gb127 hg w8 hbox hb
                 have n0_ := Aside0.mk (Kd.R_below (by (with_reducible repeat (first | apply Kd.R_alloc | apply Kd.R_drewN | apply Kd.R_drew)); exact HO_3.out) hb)
                 have n1_ := Aside0.mk (blk_below (bT BK118.out) hb)
                 have n2_ := Aside0.mk (below_step (bW HB.out) hb)
                 have n3_ := Aside0.mk (hbox)
                 have n4_ := Aside0.mk ((by rw [hg]; exact (below_size (bW HB.out)) : w.heap.size ≤ gb127))
                 have n5_ := Aside0.mk ((by rw [hg]; exact (below_size (bW HB.out)) : w.heap.size ≤ gb127))
                 have n6_ := Aside0.mk ((by rw [hg]; exact Nat.ne_of_lt (blk_lt (bT BK118.out)) : gb118 ≠ gb127))
                 have n7_ := Aside0.mk ((by rw [hg]; exact Nat.ne_of_gt (blk_lt (bT BK118.out)) : gb127 ≠ gb118))
                 clear HO_3 BK118 HB
                 have HO_3 := n0_
                 have BK118 := n1_
                 have HB := n2_
                 have BK127 := n3_
                 have GW127 := n4_
                 have GE127 := n5_
                 have NB118_127 := n6_
                 have NB127_118 := n7_
                 clear n0_ n1_ n2_ n3_ n4_ n5_ n6_ n7_ hb hbox hg
                 refine hK.out _ _ ⟨(blk_cell BK118.out 0).trans rfl, (blk_cell BK118.out 1).trans rfl⟩ (fun hHeld => ?_)
                 clear hK K
                 refine norm_ (a' := ?_) ?_ ?_
                 rotate_left
                 ·
                  show Act.put _ (some 5) _ = _
                  simp only [Act.put, List.setIfInBounds_toArray, List.set_cons_zero, List.set_cons_succ, i64_w, i32_w]
                  rfl
                 exact norm_ (by first | (simp only [putAll, Act.put, List.setIfInBounds_toArray, List.set_cons_zero, List.set_cons_succ]; done) | (simp only [putAll, Act.put, List.setIfInBounds_toArray, List.set_cons_zero, List.set_cons_succ]; rfl)) (hJ8 (gb127) _ ⟨hHeld, (by (with_reducible repeat (first | apply Kd.R_alloc | apply Kd.R_drewN | apply Kd.R_drew)); exact HO_3.out), (bT BK118.out), (bT BK127.out), GW127.out, GE127.out, NB118_127.out, NB127_118.out, (bW HB.out)⟩)
               ·
                skip
                rintro gb127 w9 ⟨hS_, h0_, h1_, h2_, h3_, h4_, h5_, h6_, h7_⟩
                have n0_ : Aside0 (Kd.R (Kd.int .u8) 5 w9 w.heap.size (fun _ => True) u3 x3_1) := ⟨h0_⟩
                have n1_ : Aside0 (w9.heap[gb118]? = some (.cells #[.int .u64 x119000_1, .int .u64 x119001_1] 24 (0, 0))) := ⟨h1_⟩
                have n2_ : Aside0 (w9.heap[gb127]? = some (.cells #[.int .u64 0, .int .u64 0] 24 (0, 0))) := ⟨h2_⟩
                have n3_ : Aside0 (w.heap.size ≤ gb127) := ⟨h3_⟩
                have n4_ : Aside0 (w.heap.size ≤ gb127) := ⟨h4_⟩
                have n5_ : Aside0 (gb118 ≠ gb127) := ⟨h5_⟩
                have n6_ : Aside0 (gb127 ≠ gb118) := ⟨h6_⟩
                have n7_ : Aside0 (Below w.heap.size w w9) := ⟨h7_⟩
                clear HO_3 BK118 HB h0_ h1_ h2_ h3_ h4_ h5_ h6_ h7_
                have HO_3 := n0_
                have BK118 := n1_
                have BK127 := n2_
                have GW127 := n3_
                have GE127 := n4_
                have NB118_127 := n5_
                have NB127_118 := n6_
                have HB := n7_
                clear n0_ n1_ n2_ n3_ n4_ n5_ n6_ n7_
                have hHeld : w9.cell? ⟨gb118, 0, none⟩ = some (.int .u64 x119000_1) ∧ w9.cell? ⟨gb118, 1, none⟩ = some (.int .u64 x119001_1) := hS_
                refine norm_ (a' := ?_) ?_ ?_
                rotate_left
                ·
                 simp only [putAll, Act.put, List.setIfInBounds_toArray, List.set_cons_zero, List.set_cons_succ]
                 rfl
                refine two_ (i := 1) (j := 7) (Ni := some 9) (Nj := some 4) #[true, true, false, false, false, false, false, false, true, false, false, false] #[true, false, false, false, false, false, false, true, true, false, false, false] rfl rfl rfl rfl (two_of HT_.out (by kernel_rfl)) (by decide) (by decide) (fun K hK => ?_) (fun K hK => ?_)
                ·
                 skip
                 refine goes_ Try.func18 (by kernel_rfl) rfl #[.int .u64 10] (by rfl) rfl rfl (by (try simp only [List.map_toArray, List.map_cons, List.map_nil]); first | done | rfl | (simp only [List.length_drop, List.length_take]; rfl)) ?_
                 with_reducible refine (wide_Of.calls 10 t119 t120 _ A3.out).mono ?_
                 rintro e w10 ⟨rfl, hb⟩
                 refine ⟨_, rfl, ?_⟩
                 have n0_ := Aside0.mk (Kd.R_below (by (with_reducible repeat (first | apply Kd.R_alloc | apply Kd.R_drewN | apply Kd.R_drew)); exact HO_3.out) hb)
                 have n1_ := Aside0.mk (blk_below (bT BK118.out) hb)
                 have n2_ := Aside0.mk (blk_below (bT BK127.out) hb)
                 have n3_ := Aside0.mk (below_step (bW HB.out) hb)
                 clear HO_3 BK118 BK127 HB
                 have HO_3 := n0_
                 have BK118 := n1_
                 have BK127 := n2_
                 have HB := n3_
                 clear n0_ n1_ n2_ n3_
                 (try clear hb)
                 (try clear hb2)
                 (try clear hk)
                 (try clear hi)
                 refine hK.out _ _ ⟨(blk_cell BK118.out 0).trans rfl, (blk_cell BK118.out 1).trans rfl⟩ (fun hHeld => ?_)
                 clear hK K
                 refine norm_ (a' := ?_) ?_ ?_
                 rotate_left
                 ·
                  show Act.put _ (some 9) _ = _
                  simp only [Act.put, List.setIfInBounds_toArray, List.set_cons_zero, List.set_cons_succ, i64_w, i32_w]
                  rfl
                 exact norm_ (by first | (simp only [putAll, Act.put, List.setIfInBounds_toArray, List.set_cons_zero, List.set_cons_succ]; done) | (simp only [putAll, Act.put, List.setIfInBounds_toArray, List.set_cons_zero, List.set_cons_succ]; rfl)) (hJ1_8 (gb127) _ ⟨hHeld, (by (with_reducible repeat (first | apply Kd.R_alloc | apply Kd.R_drewN | apply Kd.R_drew)); exact HO_3.out), (bT BK118.out), (bT BK127.out), GW127.out, GE127.out, NB118_127.out, NB127_118.out, (bW HB.out)⟩)
                ·
                 skip
                 refine box_step ?hg (N := 4) ?hd (cs := #[.int .u64 0, .int .u64 0]) (t := 24) ?hr ?_; (case hd => rfl); (case hg => rfl); (case hr => first | (go_simp; done) | (go_simp; rfl))
                 intro gb126 hg w10 hbox hb
                 have n0_ := Aside0.mk (Kd.R_below (by (with_reducible repeat (first | apply Kd.R_alloc | apply Kd.R_drewN | apply Kd.R_drew)); exact HO_3.out) hb)
                 have n1_ := Aside0.mk (blk_below (bT BK118.out) hb)
                 have n2_ := Aside0.mk (blk_below (bT BK127.out) hb)
                 have n3_ := Aside0.mk (below_step (bW HB.out) hb)
                 have n4_ := Aside0.mk (hbox)
                 have n5_ := Aside0.mk ((by rw [hg]; exact (below_size (bW HB.out)) : w.heap.size ≤ gb126))
                 have n6_ := Aside0.mk ((by rw [hg]; exact (below_size (bW HB.out)) : w.heap.size ≤ gb126))
                 have n7_ := Aside0.mk ((by rw [hg]; exact Nat.ne_of_lt (blk_lt (bT BK118.out)) : gb118 ≠ gb126))
                 have n8_ := Aside0.mk ((by rw [hg]; exact Nat.ne_of_gt (blk_lt (bT BK118.out)) : gb126 ≠ gb118))
                 have n9_ := Aside0.mk ((by rw [hg]; exact Nat.ne_of_lt (blk_lt (bT BK127.out)) : gb127 ≠ gb126))
                 have n10_ := Aside0.mk ((by rw [hg]; exact Nat.ne_of_gt (blk_lt (bT BK127.out)) : gb126 ≠ gb127))
                 clear HO_3 BK118 BK127 HB
                 have HO_3 := n0_
                 have BK118 := n1_
                 have BK127 := n2_
                 have HB := n3_
                 have BK126 := n4_
                 have GW126 := n5_
                 have GE126 := n6_
                 have NB118_126 := n7_
                 have NB126_118 := n8_
                 have NB127_126 := n9_
                 have NB126_127 := n10_
                 clear n0_ n1_ n2_ n3_ n4_ n5_ n6_ n7_ n8_ n9_ n10_ hb hbox hg
                 refine hK.out _ _ ⟨(blk_cell BK118.out 0).trans rfl, (blk_cell BK118.out 1).trans rfl⟩ (fun hHeld => ?_)
                 clear hK K
                 refine norm_ (a' := ?_) ?_ ?_
                 rotate_left
                 ·
                  show Act.put _ (some 4) _ = _
                  simp only [Act.put, List.setIfInBounds_toArray, List.set_cons_zero, List.set_cons_succ, i64_w, i32_w]
                  rfl
                 exact norm_ (by first | (simp only [putAll, Act.put, List.setIfInBounds_toArray, List.set_cons_zero, List.set_cons_succ]; done) | (simp only [putAll, Act.put, List.setIfInBounds_toArray, List.set_cons_zero, List.set_cons_succ]; rfl)) (hJ7_8 (gb126, gb127) _ ⟨hHeld, (by (with_reducible repeat (first | apply Kd.R_alloc | apply Kd.R_drewN | apply Kd.R_drew)); exact HO_3.out), (bT BK118.out), (bT BK126.out), (bT BK127.out), GW126.out, GE126.out, NB118_126.out, NB126_118.out, NB127_126.out, NB126_127.out, GW127.out, GE127.out, NB118_127.out, NB127_118.out, (bW HB.out)⟩)
              ·
               skip
               rintro gb126 w9 ⟨hS_, h0_, h1_, h2_, h3_, h4_, h5_, h6_, h7_⟩
               have n0_ : Aside0 (Kd.R (Kd.int .u8) 5 w9 w.heap.size (fun _ => True) u3 x3_1) := ⟨h0_⟩
               have n1_ : Aside0 (w9.heap[gb118]? = some (.cells #[.int .u64 x119000_1, .int .u64 x119001_1] 24 (0, 0))) := ⟨h1_⟩
               have n2_ : Aside0 (w9.heap[gb126]? = some (.cells #[.int .u64 0, .int .u64 0] 24 (0, 0))) := ⟨h2_⟩
               have n3_ : Aside0 (w.heap.size ≤ gb126) := ⟨h3_⟩
               have n4_ : Aside0 (w.heap.size ≤ gb126) := ⟨h4_⟩
               have n5_ : Aside0 (gb118 ≠ gb126) := ⟨h5_⟩
               have n6_ : Aside0 (gb126 ≠ gb118) := ⟨h6_⟩
               have n7_ : Aside0 (Below w.heap.size w w9) := ⟨h7_⟩
               clear HO_3 BK118 HB h0_ h1_ h2_ h3_ h4_ h5_ h6_ h7_
               have HO_3 := n0_
               have BK118 := n1_
               have BK126 := n2_
               have GW126 := n3_
               have GE126 := n4_
               have NB118_126 := n5_
               have NB126_118 := n6_
               have HB := n7_
               clear n0_ n1_ n2_ n3_ n4_ n5_ n6_ n7_
               have hHeld : w9.cell? ⟨gb118, 0, none⟩ = some (.int .u64 x119000_1) ∧ w9.cell? ⟨gb118, 1, none⟩ = some (.int .u64 x119001_1) := hS_
               refine norm_ (a' := ?_) ?_ ?_
               rotate_left
               ·
                simp only [putAll, Act.put, List.setIfInBounds_toArray, List.set_cons_zero, List.set_cons_succ]
                rfl
               refine two_ (i := 1) (j := 8) (Ni := some 9) (Nj := some 5) #[true, true, false, false, false, false, false, true, false, false, false, false] #[true, false, false, false, false, false, false, true, true, false, false, false] rfl rfl rfl rfl (two_of HT_.out (by kernel_rfl)) (by decide) (by decide) (fun K hK => ?_) (fun K hK => ?_)
               ·
                skip
                refine goes_ Try.func18 (by kernel_rfl) rfl #[.int .u64 10] (by rfl) rfl rfl (by (try simp only [List.map_toArray, List.map_cons, List.map_nil]); first | done | rfl | (simp only [List.length_drop, List.length_take]; rfl)) ?_
                with_reducible refine (wide_Of.calls 10 t119 t120 _ A3.out).mono ?_
                rintro e w10 ⟨rfl, hb⟩
                refine ⟨_, rfl, ?_⟩
                have n0_ := Aside0.mk (Kd.R_below (by (with_reducible repeat (first | apply Kd.R_alloc | apply Kd.R_drewN | apply Kd.R_drew)); exact HO_3.out) hb)
                have n1_ := Aside0.mk (blk_below (bT BK118.out) hb)
                have n2_ := Aside0.mk (blk_below (bT BK126.out) hb)
                have n3_ := Aside0.mk (below_step (bW HB.out) hb)
                clear HO_3 BK118 BK126 HB
                have HO_3 := n0_
                have BK118 := n1_
                have BK126 := n2_
                have HB := n3_
                clear n0_ n1_ n2_ n3_
                (try clear hb)
                (try clear hb2)
                (try clear hk)
                (try clear hi)
                refine hK.out _ _ ⟨(blk_cell BK118.out 0).trans rfl, (blk_cell BK118.out 1).trans rfl⟩ (fun hHeld => ?_)
                clear hK K
                refine norm_ (a' := ?_) ?_ ?_
                rotate_left
                ·
                 show Act.put _ (some 9) _ = _
                 simp only [Act.put, List.setIfInBounds_toArray, List.set_cons_zero, List.set_cons_succ, i64_w, i32_w]
                 rfl
                exact norm_ (by first | (simp only [putAll, Act.put, List.setIfInBounds_toArray, List.set_cons_zero, List.set_cons_succ]; done) | (simp only [putAll, Act.put, List.setIfInBounds_toArray, List.set_cons_zero, List.set_cons_succ]; rfl)) (hJ1_7 (gb126) _ ⟨hHeld, (by (with_reducible repeat (first | apply Kd.R_alloc | apply Kd.R_drewN | apply Kd.R_drew)); exact HO_3.out), (bT BK118.out), (bT BK126.out), GW126.out, GE126.out, NB118_126.out, NB126_118.out, (bW HB.out)⟩)
               ·
                skip
                refine box_step ?hg (N := 5) ?hd (cs := #[.int .u64 0, .int .u64 0]) (t := 24) ?hr ?_; (case hd => rfl); (case hg => rfl); (case hr => first | (go_simp; done) | (go_simp; rfl))
                intro gb127 hg w10 hbox hb
                have n0_ := Aside0.mk (Kd.R_below (by (with_reducible repeat (first | apply Kd.R_alloc | apply Kd.R_drewN | apply Kd.R_drew)); exact HO_3.out) hb)
                have n1_ := Aside0.mk (blk_below (bT BK118.out) hb)
                have n2_ := Aside0.mk (blk_below (bT BK126.out) hb)
                have n3_ := Aside0.mk (below_step (bW HB.out) hb)
                have n4_ := Aside0.mk (hbox)
                have n5_ := Aside0.mk ((by rw [hg]; exact (below_size (bW HB.out)) : w.heap.size ≤ gb127))
                have n6_ := Aside0.mk ((by rw [hg]; exact (below_size (bW HB.out)) : w.heap.size ≤ gb127))
                have n7_ := Aside0.mk ((by rw [hg]; exact Nat.ne_of_lt (blk_lt (bT BK118.out)) : gb118 ≠ gb127))
                have n8_ := Aside0.mk ((by rw [hg]; exact Nat.ne_of_gt (blk_lt (bT BK118.out)) : gb127 ≠ gb118))
                have n9_ := Aside0.mk ((by rw [hg]; exact Nat.ne_of_lt (blk_lt (bT BK126.out)) : gb126 ≠ gb127))
                have n10_ := Aside0.mk ((by rw [hg]; exact Nat.ne_of_gt (blk_lt (bT BK126.out)) : gb127 ≠ gb126))
                clear HO_3 BK118 BK126 HB
                have HO_3 := n0_
                have BK118 := n1_
                have BK126 := n2_
                have HB := n3_
                have BK127 := n4_
                have GW127 := n5_
                have GE127 := n6_
                have NB118_127 := n7_
                have NB127_118 := n8_
                have NB126_127 := n9_
                have NB127_126 := n10_
                clear n0_ n1_ n2_ n3_ n4_ n5_ n6_ n7_ n8_ n9_ n10_ hb hbox hg
                refine hK.out _ _ ⟨(blk_cell BK118.out 0).trans rfl, (blk_cell BK118.out 1).trans rfl⟩ (fun hHeld => ?_)
                clear hK K
                refine norm_ (a' := ?_) ?_ ?_
                rotate_left
                ·
                 show Act.put _ (some 5) _ = _
                 simp only [Act.put, List.setIfInBounds_toArray, List.set_cons_zero, List.set_cons_succ, i64_w, i32_w]
                 rfl
                exact norm_ (by first | (simp only [putAll, Act.put, List.setIfInBounds_toArray, List.set_cons_zero, List.set_cons_succ]; done) | (simp only [putAll, Act.put, List.setIfInBounds_toArray, List.set_cons_zero, List.set_cons_succ]; rfl)) (hJ7_8 (gb126, gb127) _ ⟨hHeld, (by (with_reducible repeat (first | apply Kd.R_alloc | apply Kd.R_drewN | apply Kd.R_drew)); exact HO_3.out), (bT BK118.out), (bT BK126.out), (bT BK127.out), GW126.out, GE126.out, NB118_126.out, NB126_118.out, NB127_126.out, NB126_127.out, GW127.out, GE127.out, NB118_127.out, NB127_118.out, (bW HB.out)⟩)
             ·
              skip
              rintro _ w9 ⟨hS_, h0_, h1_, h2_⟩
              have n0_ : Aside0 (Kd.R (Kd.int .u8) 5 w9 w.heap.size (fun _ => True) u3 x3_1) := ⟨h0_⟩
              have n1_ : Aside0 (w9.heap[gb118]? = some (.cells #[.int .u64 x119000_1, .int .u64 x119001_1] 24 (0, 0))) := ⟨h1_⟩
              have n2_ : Aside0 (Below w.heap.size w w9) := ⟨h2_⟩
              clear HO_3 BK118 HB h0_ h1_ h2_
              have HO_3 := n0_
              have BK118 := n1_
              have HB := n2_
              clear n0_ n1_ n2_
              have hHeld : w9.cell? ⟨gb118, 0, none⟩ = some (.int .u64 x119000_1) ∧ w9.cell? ⟨gb118, 1, none⟩ = some (.int .u64 x119001_1) := hS_
              refine norm_ (a' := ?_) ?_ ?_
              rotate_left
              ·
               simp only [putAll, Act.put, List.setIfInBounds_toArray, List.set_cons_zero, List.set_cons_succ]
               rfl
              refine three_ (i := 2) (j := 7) (k := 8) (Ni := some 10) (Nj := some 4) (Nk := some 5) #[true, true, true, false, false, false, false, false, false, false, false, false] #[true, true, false, false, false, false, false, true, false, false, false, false] #[true, true, false, false, false, false, false, false, true, false, false, false] rfl rfl rfl rfl rfl rfl (three_of HT_.out (by kernel_rfl)) (by decide) (by decide) (by decide) (fun K hK => ?_) (fun K hK => ?_) (fun K hK => ?_)
              ·
               skip
               refine goes_ Try.func20 (by kernel_rfl) rfl #[.agg #[.int .u64 x119000_1, .int .u64 x119001_1], .agg #[.int .u64 t119, .int .u64 t120]] (by rfl) rfl rfl (by (try simp only [List.map_toArray, List.map_cons, List.map_nil]); first | done | rfl | (simp only [List.length_drop, List.length_take]; rfl)) ?_
               with_reducible refine (wide_Div.calls x119000_1 x119001_1 t119 t120 t121 t122 t123 t124 t125 _ A4.out).mono ?_
               rintro e w10 ⟨rfl, hb⟩
               refine ⟨_, rfl, ?_⟩
               have n0_ := Aside0.mk (Kd.R_below (by (with_reducible repeat (first | apply Kd.R_alloc | apply Kd.R_drewN | apply Kd.R_drew)); exact HO_3.out) hb)
               have n1_ := Aside0.mk (blk_below (bT BK118.out) hb)
               have n2_ := Aside0.mk (below_step (bW HB.out) hb)
               clear HO_3 BK118 HB
               have HO_3 := n0_
               have BK118 := n1_
               have HB := n2_
               clear n0_ n1_ n2_
               (try clear hb)
               (try clear hb2)
               (try clear hk)
               (try clear hi)
               refine hK.out _ _ ⟨(blk_cell BK118.out 0).trans rfl, (blk_cell BK118.out 1).trans rfl⟩ (fun hHeld => ?_)
               clear hK K
               refine norm_ (a' := ?_) ?_ ?_
               rotate_left
               ·
                show Act.put _ (some 10) _ = _
                simp only [Act.put, List.setIfInBounds_toArray, List.set_cons_zero, List.set_cons_succ, i64_w, i32_w]
                rfl
               refine pure_ (i := 3) (N := some 7) (v := ?_) (a' := ?_) #[true, true, true, true, false, false, false, false, false, false, false, false] rfl rfl (any_of HT_.out (by kernel_rfl)) (fun _ _ _ h => h) (Or.inl ⟨by rfl, ?_⟩) ?_ ?_
               rotate_left
               ·
                intro w'
                go_simp
                with_reducible rfl
               rotate_left
               ·
                simp only [Act.put, List.setIfInBounds_toArray, List.set_cons_zero, List.set_cons_succ, i64_w, i32_w]
                rfl
               refine pure_ (i := 4) (N := some 11) (v := ?_) (a' := ?_) #[true, true, true, true, true, false, false, false, false, false, false, false] rfl rfl (any_of HT_.out (by kernel_rfl)) (fun _ _ _ h => h) (Or.inl ⟨by rfl, ?_⟩) ?_ ?_
               rotate_left
               ·
                intro w'
                go_simp
                with_reducible rfl
               rotate_left
               ·
                simp only [Act.put, List.setIfInBounds_toArray, List.set_cons_zero, List.set_cons_succ, i64_w, i32_w]
                rfl
               refine pure_ (i := 5) (N := some 12) (v := ?_) (a' := ?_) #[true, true, true, true, true, true, false, false, false, false, false, false] rfl rfl (any_of HT_.out (by kernel_rfl)) (fun _ _ _ h => h) (Or.inl ⟨by rfl, ?_⟩) ?_ ?_
               rotate_left
               ·
                intro w'
                go_simp
                with_reducible rfl
               rotate_left
               ·
                simp only [Act.put, List.setIfInBounds_toArray, List.set_cons_zero, List.set_cons_succ, i64_w, i32_w]
                rfl
               refine pure_ (i := 6) (N := some 13) (v := ?_) (a' := ?_) #[true, true, true, true, true, true, true, false, false, false, false, false] rfl rfl (any_of HT_.out (by kernel_rfl)) (fun _ _ _ h => h) (Or.inl ⟨by rfl, ?_⟩) ?_ ?_
               rotate_left
               ·
                intro w'
                go_simp
                with_reducible rfl
               rotate_left
               ·
                simp only [Act.put, List.setIfInBounds_toArray, List.set_cons_zero, List.set_cons_succ, i64_w, i32_w]
                rfl
               exact norm_ (by first | (simp only [putAll, Act.put, List.setIfInBounds_toArray, List.set_cons_zero, List.set_cons_succ]; done) | (simp only [putAll, Act.put, List.setIfInBounds_toArray, List.set_cons_zero, List.set_cons_succ]; rfl)) (hJ1_2 () _ ⟨hHeld, (by (with_reducible repeat (first | apply Kd.R_alloc | apply Kd.R_drewN | apply Kd.R_drew)); exact HO_3.out), (bT BK118.out), (bW HB.out)⟩)
              ·
               skip
               refine box_step ?hg (N := 4) ?hd (cs := #[.int .u64 0, .int .u64 0]) (t := 24) ?hr ?_; (case hd => rfl); (case hg => rfl); (case hr => first | (go_simp; done) | (go_simp; rfl))
               intro gb126 hg w10 hbox hb
               have n0_ := Aside0.mk (Kd.R_below (by (with_reducible repeat (first | apply Kd.R_alloc | apply Kd.R_drewN | apply Kd.R_drew)); exact HO_3.out) hb)
               have n1_ := Aside0.mk (blk_below (bT BK118.out) hb)
               have n2_ := Aside0.mk (below_step (bW HB.out) hb)
               have n3_ := Aside0.mk (hbox)
               have n4_ := Aside0.mk ((by rw [hg]; exact (below_size (bW HB.out)) : w.heap.size ≤ gb126))
               have n5_ := Aside0.mk ((by rw [hg]; exact (below_size (bW HB.out)) : w.heap.size ≤ gb126))
               have n6_ := Aside0.mk ((by rw [hg]; exact Nat.ne_of_lt (blk_lt (bT BK118.out)) : gb118 ≠ gb126))
               have n7_ := Aside0.mk ((by rw [hg]; exact Nat.ne_of_gt (blk_lt (bT BK118.out)) : gb126 ≠ gb118))
               clear HO_3 BK118 HB
               have HO_3 := n0_
               have BK118 := n1_
               have HB := n2_
               have BK126 := n3_
               have GW126 := n4_
               have GE126 := n5_
               have NB118_126 := n6_
               have NB126_118 := n7_
               clear n0_ n1_ n2_ n3_ n4_ n5_ n6_ n7_ hb hbox hg
               refine hK.out _ _ ⟨(blk_cell BK118.out 0).trans rfl, (blk_cell BK118.out 1).trans rfl⟩ (fun hHeld => ?_)
               clear hK K
               refine norm_ (a' := ?_) ?_ ?_
               rotate_left
               ·
                show Act.put _ (some 4) _ = _
                simp only [Act.put, List.setIfInBounds_toArray, List.set_cons_zero, List.set_cons_succ, i64_w, i32_w]
                rfl
               exact norm_ (by first | (simp only [putAll, Act.put, List.setIfInBounds_toArray, List.set_cons_zero, List.set_cons_succ]; done) | (simp only [putAll, Act.put, List.setIfInBounds_toArray, List.set_cons_zero, List.set_cons_succ]; rfl)) (hJ1_7 (gb126) _ ⟨hHeld, (by (with_reducible repeat (first | apply Kd.R_alloc | apply Kd.R_drewN | apply Kd.R_drew)); exact HO_3.out), (bT BK118.out), (bT BK126.out), GW126.out, GE126.out, NB118_126.out, NB126_118.out, (bW HB.out)⟩)
              ·
               skip
               refine box_step ?hg (N := 5) ?hd (cs := #[.int .u64 0, .int .u64 0]) (t := 24) ?hr ?_; (case hd => rfl); (case hg => rfl); (case hr => first | (go_simp; done) | (go_simp; rfl))
               intro gb127 hg w10 hbox hb
               have n0_ := Aside0.mk (Kd.R_below (by (with_reducible repeat (first | apply Kd.R_alloc | apply Kd.R_drewN | apply Kd.R_drew)); exact HO_3.out) hb)
               have n1_ := Aside0.mk (blk_below (bT BK118.out) hb)
               have n2_ := Aside0.mk (below_step (bW HB.out) hb)
               have n3_ := Aside0.mk (hbox)
               have n4_ := Aside0.mk ((by rw [hg]; exact (below_size (bW HB.out)) : w.heap.size ≤ gb127))
               have n5_ := Aside0.mk ((by rw [hg]; exact (below_size (bW HB.out)) : w.heap.size ≤ gb127))
               have n6_ := Aside0.mk ((by rw [hg]; exact Nat.ne_of_lt (blk_lt (bT BK118.out)) : gb118 ≠ gb127))
               have n7_ := Aside0.mk ((by rw [hg]; exact Nat.ne_of_gt (blk_lt (bT BK118.out)) : gb127 ≠ gb118))
               clear HO_3 BK118 HB
               have HO_3 := n0_
               have BK118 := n1_
               have HB := n2_
               have BK127 := n3_
               have GW127 := n4_
               have GE127 := n5_
               have NB118_127 := n6_
               have NB127_118 := n7_
               clear n0_ n1_ n2_ n3_ n4_ n5_ n6_ n7_ hb hbox hg
               refine hK.out _ _ ⟨(blk_cell BK118.out 0).trans rfl, (blk_cell BK118.out 1).trans rfl⟩ (fun hHeld => ?_)
               clear hK K
               refine norm_ (a' := ?_) ?_ ?_
               rotate_left
               ·
                show Act.put _ (some 5) _ = _
                simp only [Act.put, List.setIfInBounds_toArray, List.set_cons_zero, List.set_cons_succ, i64_w, i32_w]
                rfl
               exact norm_ (by first | (simp only [putAll, Act.put, List.setIfInBounds_toArray, List.set_cons_zero, List.set_cons_succ]; done) | (simp only [putAll, Act.put, List.setIfInBounds_toArray, List.set_cons_zero, List.set_cons_succ]; rfl)) (hJ1_8 (gb127) _ ⟨hHeld, (by (with_reducible repeat (first | apply Kd.R_alloc | apply Kd.R_drewN | apply Kd.R_drew)); exact HO_3.out), (bT BK118.out), (bT BK127.out), GW127.out, GE127.out, NB118_127.out, NB127_118.out, (bW HB.out)⟩)
            ·
             skip
             rintro ⟨gb126, gb127⟩ w10 ⟨hS_, h0_, h1_, h2_, h3_, h4_, h5_, h6_, h7_, h8_, h9_, h10_, h11_, h12_, h13_, h14_⟩
             have n0_ : Aside0 (Kd.R (Kd.int .u8) 5 w10 w.heap.size (fun _ => True) u3 x3_1) := ⟨h0_⟩
             have n1_ : Aside0 (w10.heap[gb118]? = some (.cells #[.int .u64 x119000_1, .int .u64 x119001_1] 24 (0, 0))) := ⟨h1_⟩
             have n2_ : Aside0 (w10.heap[gb126]? = some (.cells #[.int .u64 0, .int .u64 0] 24 (0, 0))) := ⟨h2_⟩
             have n3_ : Aside0 (w10.heap[gb127]? = some (.cells #[.int .u64 0, .int .u64 0] 24 (0, 0))) := ⟨h3_⟩
             have n4_ : Aside0 (w.heap.size ≤ gb126) := ⟨h4_⟩
             have n5_ : Aside0 (w.heap.size ≤ gb126) := ⟨h5_⟩
             have n6_ : Aside0 (gb118 ≠ gb126) := ⟨h6_⟩
             have n7_ : Aside0 (gb126 ≠ gb118) := ⟨h7_⟩
             have n8_ : Aside0 (gb127 ≠ gb126) := ⟨h8_⟩
             have n9_ : Aside0 (gb126 ≠ gb127) := ⟨h9_⟩
             have n10_ : Aside0 (w.heap.size ≤ gb127) := ⟨h10_⟩
             have n11_ : Aside0 (w.heap.size ≤ gb127) := ⟨h11_⟩
             have n12_ : Aside0 (gb118 ≠ gb127) := ⟨h12_⟩
             have n13_ : Aside0 (gb127 ≠ gb118) := ⟨h13_⟩
             have n14_ : Aside0 (Below w.heap.size w w10) := ⟨h14_⟩
             clear HO_3 BK118 HB h0_ h1_ h2_ h3_ h4_ h5_ h6_ h7_ h8_ h9_ h10_ h11_ h12_ h13_ h14_
             have HO_3 := n0_
             have BK118 := n1_
             have BK126 := n2_
             have BK127 := n3_
             have GW126 := n4_
             have GE126 := n5_
             have NB118_126 := n6_
             have NB126_118 := n7_
             have NB127_126 := n8_
             have NB126_127 := n9_
             have GW127 := n10_
             have GE127 := n11_
             have NB118_127 := n12_
             have NB127_118 := n13_
             have HB := n14_
             clear n0_ n1_ n2_ n3_ n4_ n5_ n6_ n7_ n8_ n9_ n10_ n11_ n12_ n13_ n14_
             have hHeld : w10.cell? ⟨gb118, 0, none⟩ = some (.int .u64 x119000_1) ∧ w10.cell? ⟨gb118, 1, none⟩ = some (.int .u64 x119001_1) := hS_
             refine norm_ (a' := ?_) ?_ ?_
             rotate_left
             ·
              simp only [putAll, Act.put, List.setIfInBounds_toArray, List.set_cons_zero, List.set_cons_succ]
              rfl
             refine one_ (i := 1) (N := some 9) #[true, true, false, false, false, false, false, true, true, false, false, false] rfl rfl (one_of HT_.out (by kernel_rfl)) (by decide) (fun K hK => ?_)
             refine goes_ Try.func18 (by kernel_rfl) rfl #[.int .u64 10] (by rfl) rfl rfl (by (try simp only [List.map_toArray, List.map_cons, List.map_nil]); first | done | rfl | (simp only [List.length_drop, List.length_take]; rfl)) ?_
             with_reducible refine (wide_Of.calls 10 t119 t120 _ A3.out).mono ?_
             rintro e w11 ⟨rfl, hb⟩
             refine ⟨_, rfl, ?_⟩
             have n0_ := Aside0.mk (Kd.R_below (by (with_reducible repeat (first | apply Kd.R_alloc | apply Kd.R_drewN | apply Kd.R_drew)); exact HO_3.out) hb)
             have n1_ := Aside0.mk (blk_below (bT BK118.out) hb)
             have n2_ := Aside0.mk (blk_below (bT BK126.out) hb)
             have n3_ := Aside0.mk (blk_below (bT BK127.out) hb)
             have n4_ := Aside0.mk (below_step (bW HB.out) hb)
             clear HO_3 BK118 BK126 BK127 HB
             have HO_3 := n0_
             have BK118 := n1_
             have BK126 := n2_
             have BK127 := n3_
             have HB := n4_
             clear n0_ n1_ n2_ n3_ n4_
             (try clear hb)
             (try clear hb2)
             (try clear hk)
             (try clear hi)
             refine hK.out _ _ ⟨(blk_cell BK118.out 0).trans rfl, (blk_cell BK118.out 1).trans rfl⟩ (fun hHeld => ?_)
             clear hK K
             refine norm_ (a' := ?_) ?_ ?_
             rotate_left
             ·
              show Act.put _ (some 9) _ = _
              simp only [Act.put, List.setIfInBounds_toArray, List.set_cons_zero, List.set_cons_succ, i64_w, i32_w]
              rfl
             exact norm_ (by first | (simp only [putAll, Act.put, List.setIfInBounds_toArray, List.set_cons_zero, List.set_cons_succ]; done) | (simp only [putAll, Act.put, List.setIfInBounds_toArray, List.set_cons_zero, List.set_cons_succ]; rfl)) (hJ1_7_8 (gb126, gb127) _ ⟨hHeld, (by (with_reducible repeat (first | apply Kd.R_alloc | apply Kd.R_drewN | apply Kd.R_drew)); exact HO_3.out), (bT BK118.out), (bT BK126.out), (bT BK127.out), GW126.out, GE126.out, NB118_126.out, NB126_118.out, NB127_126.out, NB126_127.out, GW127.out, GE127.out, NB118_127.out, NB127_118.out, (bW HB.out)⟩)
           ·
            skip
            rintro gb127 w10 ⟨hS_, h0_, h1_, h2_, h3_, h4_, h5_, h6_, h7_⟩
            have n0_ : Aside0 (Kd.R (Kd.int .u8) 5 w10 w.heap.size (fun _ => True) u3 x3_1) := ⟨h0_⟩
            have n1_ : Aside0 (w10.heap[gb118]? = some (.cells #[.int .u64 x119000_1, .int .u64 x119001_1] 24 (0, 0))) := ⟨h1_⟩
            have n2_ : Aside0 (w10.heap[gb127]? = some (.cells #[.int .u64 0, .int .u64 0] 24 (0, 0))) := ⟨h2_⟩
            have n3_ : Aside0 (w.heap.size ≤ gb127) := ⟨h3_⟩
            have n4_ : Aside0 (w.heap.size ≤ gb127) := ⟨h4_⟩
            have n5_ : Aside0 (gb118 ≠ gb127) := ⟨h5_⟩
            have n6_ : Aside0 (gb127 ≠ gb118) := ⟨h6_⟩
            have n7_ : Aside0 (Below w.heap.size w w10) := ⟨h7_⟩
            clear HO_3 BK118 HB h0_ h1_ h2_ h3_ h4_ h5_ h6_ h7_
            have HO_3 := n0_
            have BK118 := n1_
            have BK127 := n2_
            have GW127 := n3_
            have GE127 := n4_
            have NB118_127 := n5_
            have NB127_118 := n6_
            have HB := n7_
            clear n0_ n1_ n2_ n3_ n4_ n5_ n6_ n7_
            have hHeld : w10.cell? ⟨gb118, 0, none⟩ = some (.int .u64 x119000_1) ∧ w10.cell? ⟨gb118, 1, none⟩ = some (.int .u64 x119001_1) := hS_
            refine norm_ (a' := ?_) ?_ ?_
            rotate_left
            ·
             simp only [putAll, Act.put, List.setIfInBounds_toArray, List.set_cons_zero, List.set_cons_succ]
             rfl
            refine two_ (i := 2) (j := 7) (Ni := some 10) (Nj := some 4) #[true, true, true, false, false, false, false, false, true, false, false, false] #[true, true, false, false, false, false, false, true, true, false, false, false] rfl rfl rfl rfl (two_of HT_.out (by kernel_rfl)) (by decide) (by decide) (fun K hK => ?_) (fun K hK => ?_)
            ·
             skip
             refine goes_ Try.func20 (by kernel_rfl) rfl #[.agg #[.int .u64 x119000_1, .int .u64 x119001_1], .agg #[.int .u64 t119, .int .u64 t120]] (by rfl) rfl rfl (by (try simp only [List.map_toArray, List.map_cons, List.map_nil]); first | done | rfl | (simp only [List.length_drop, List.length_take]; rfl)) ?_
             with_reducible refine (wide_Div.calls x119000_1 x119001_1 t119 t120 t121 t122 t123 t124 t125 _ A4.out).mono ?_
             rintro e w11 ⟨rfl, hb⟩
             refine ⟨_, rfl, ?_⟩
             have n0_ := Aside0.mk (Kd.R_below (by (with_reducible repeat (first | apply Kd.R_alloc | apply Kd.R_drewN | apply Kd.R_drew)); exact HO_3.out) hb)
             have n1_ := Aside0.mk (blk_below (bT BK118.out) hb)
             have n2_ := Aside0.mk (blk_below (bT BK127.out) hb)
             have n3_ := Aside0.mk (below_step (bW HB.out) hb)
             clear HO_3 BK118 BK127 HB
             have HO_3 := n0_
             have BK118 := n1_
             have BK127 := n2_
             have HB := n3_
             clear n0_ n1_ n2_ n3_
             (try clear hb)
             (try clear hb2)
             (try clear hk)
             (try clear hi)
             refine hK.out _ _ ⟨(blk_cell BK118.out 0).trans rfl, (blk_cell BK118.out 1).trans rfl⟩ (fun hHeld => ?_)
             clear hK K
             refine norm_ (a' := ?_) ?_ ?_
             rotate_left
             ·
              show Act.put _ (some 10) _ = _
              simp only [Act.put, List.setIfInBounds_toArray, List.set_cons_zero, List.set_cons_succ, i64_w, i32_w]
              rfl
             refine pure_ (i := 3) (N := some 7) (v := ?_) (a' := ?_) #[true, true, true, true, false, false, false, false, true, false, false, false] rfl rfl (any_of HT_.out (by kernel_rfl)) (fun _ _ _ h => h) (Or.inl ⟨by rfl, ?_⟩) ?_ ?_
             rotate_left
             ·
              intro w'
              go_simp
              with_reducible rfl
             rotate_left
             ·
              simp only [Act.put, List.setIfInBounds_toArray, List.set_cons_zero, List.set_cons_succ, i64_w, i32_w]
              rfl
             refine pure_ (i := 4) (N := some 11) (v := ?_) (a' := ?_) #[true, true, true, true, true, false, false, false, true, false, false, false] rfl rfl (any_of HT_.out (by kernel_rfl)) (fun _ _ _ h => h) (Or.inl ⟨by rfl, ?_⟩) ?_ ?_
             rotate_left
             ·
              intro w'
              go_simp
              with_reducible rfl
             rotate_left
             ·
              simp only [Act.put, List.setIfInBounds_toArray, List.set_cons_zero, List.set_cons_succ, i64_w, i32_w]
              rfl
             refine pure_ (i := 5) (N := some 12) (v := ?_) (a' := ?_) #[true, true, true, true, true, true, false, false, true, false, false, false] rfl rfl (any_of HT_.out (by kernel_rfl)) (fun _ _ _ h => h) (Or.inl ⟨by rfl, ?_⟩) ?_ ?_
             rotate_left
             ·
              intro w'
              go_simp
              with_reducible rfl
             rotate_left
             ·
              simp only [Act.put, List.setIfInBounds_toArray, List.set_cons_zero, List.set_cons_succ, i64_w, i32_w]
              rfl
             refine pure_ (i := 6) (N := some 13) (v := ?_) (a' := ?_) #[true, true, true, true, true, true, true, false, true, false, false, false] rfl rfl (any_of HT_.out (by kernel_rfl)) (fun _ _ _ h => h) (Or.inl ⟨by rfl, ?_⟩) ?_ ?_
             rotate_left
             ·
              intro w'
              go_simp
              with_reducible rfl
             rotate_left
             ·
              simp only [Act.put, List.setIfInBounds_toArray, List.set_cons_zero, List.set_cons_succ, i64_w, i32_w]
              rfl
             exact norm_ (by first | (simp only [putAll, Act.put, List.setIfInBounds_toArray, List.set_cons_zero, List.set_cons_succ]; done) | (simp only [putAll, Act.put, List.setIfInBounds_toArray, List.set_cons_zero, List.set_cons_succ]; rfl)) (hJ1_2_8 (gb127) _ ⟨hHeld, (by (with_reducible repeat (first | apply Kd.R_alloc | apply Kd.R_drewN | apply Kd.R_drew)); exact HO_3.out), (bT BK118.out), (bT BK127.out), GW127.out, GE127.out, NB118_127.out, NB127_118.out, (bW HB.out)⟩)
            ·
             skip
             refine box_step ?hg (N := 4) ?hd (cs := #[.int .u64 0, .int .u64 0]) (t := 24) ?hr ?_; (case hd => rfl); (case hg => rfl); (case hr => first | (go_simp; done) | (go_simp; rfl))
             intro gb126 hg w11 hbox hb
             have n0_ := Aside0.mk (Kd.R_below (by (with_reducible repeat (first | apply Kd.R_alloc | apply Kd.R_drewN | apply Kd.R_drew)); exact HO_3.out) hb)
             have n1_ := Aside0.mk (blk_below (bT BK118.out) hb)
             have n2_ := Aside0.mk (blk_below (bT BK127.out) hb)
             have n3_ := Aside0.mk (below_step (bW HB.out) hb)
             have n4_ := Aside0.mk (hbox)
             have n5_ := Aside0.mk ((by rw [hg]; exact (below_size (bW HB.out)) : w.heap.size ≤ gb126))
             have n6_ := Aside0.mk ((by rw [hg]; exact (below_size (bW HB.out)) : w.heap.size ≤ gb126))
             have n7_ := Aside0.mk ((by rw [hg]; exact Nat.ne_of_lt (blk_lt (bT BK118.out)) : gb118 ≠ gb126))
             have n8_ := Aside0.mk ((by rw [hg]; exact Nat.ne_of_gt (blk_lt (bT BK118.out)) : gb126 ≠ gb118))
             have n9_ := Aside0.mk ((by rw [hg]; exact Nat.ne_of_lt (blk_lt (bT BK127.out)) : gb127 ≠ gb126))
             have n10_ := Aside0.mk ((by rw [hg]; exact Nat.ne_of_gt (blk_lt (bT BK127.out)) : gb126 ≠ gb127))
             clear HO_3 BK118 BK127 HB
             have HO_3 := n0_
             have BK118 := n1_
             have BK127 := n2_
             have HB := n3_
             have BK126 := n4_
             have GW126 := n5_
             have GE126 := n6_
             have NB118_126 := n7_
             have NB126_118 := n8_
             have NB127_126 := n9_
             have NB126_127 := n10_
             clear n0_ n1_ n2_ n3_ n4_ n5_ n6_ n7_ n8_ n9_ n10_ hb hbox hg
             refine hK.out _ _ ⟨(blk_cell BK118.out 0).trans rfl, (blk_cell BK118.out 1).trans rfl⟩ (fun hHeld => ?_)
             clear hK K
             refine norm_ (a' := ?_) ?_ ?_
             rotate_left
             ·
              show Act.put _ (some 4) _ = _
              simp only [Act.put, List.setIfInBounds_toArray, List.set_cons_zero, List.set_cons_succ, i64_w, i32_w]
              rfl
             exact norm_ (by first | (simp only [putAll, Act.put, List.setIfInBounds_toArray, List.set_cons_zero, List.set_cons_succ]; done) | (simp only [putAll, Act.put, List.setIfInBounds_toArray, List.set_cons_zero, List.set_cons_succ]; rfl)) (hJ1_7_8 (gb126, gb127) _ ⟨hHeld, (by (with_reducible repeat (first | apply Kd.R_alloc | apply Kd.R_drewN | apply Kd.R_drew)); exact HO_3.out), (bT BK118.out), (bT BK126.out), (bT BK127.out), GW126.out, GE126.out, NB118_126.out, NB126_118.out, NB127_126.out, NB126_127.out, GW127.out, GE127.out, NB118_127.out, NB127_118.out, (bW HB.out)⟩)
          ·
           skip
           rintro gb126 w10 ⟨hS_, h0_, h1_, h2_, h3_, h4_, h5_, h6_, h7_⟩
           have n0_ : Aside0 (Kd.R (Kd.int .u8) 5 w10 w.heap.size (fun _ => True) u3 x3_1) := ⟨h0_⟩
           have n1_ : Aside0 (w10.heap[gb118]? = some (.cells #[.int .u64 x119000_1, .int .u64 x119001_1] 24 (0, 0))) := ⟨h1_⟩
           have n2_ : Aside0 (w10.heap[gb126]? = some (.cells #[.int .u64 0, .int .u64 0] 24 (0, 0))) := ⟨h2_⟩
           have n3_ : Aside0 (w.heap.size ≤ gb126) := ⟨h3_⟩
           have n4_ : Aside0 (w.heap.size ≤ gb126) := ⟨h4_⟩
           have n5_ : Aside0 (gb118 ≠ gb126) := ⟨h5_⟩
           have n6_ : Aside0 (gb126 ≠ gb118) := ⟨h6_⟩
           have n7_ : Aside0 (Below w.heap.size w w10) := ⟨h7_⟩
           clear HO_3 BK118 HB h0_ h1_ h2_ h3_ h4_ h5_ h6_ h7_
           have HO_3 := n0_
           have BK118 := n1_
           have BK126 := n2_
           have GW126 := n3_
           have GE126 := n4_
           have NB118_126 := n5_
           have NB126_118 := n6_
           have HB := n7_
           clear n0_ n1_ n2_ n3_ n4_ n5_ n6_ n7_
           have hHeld : w10.cell? ⟨gb118, 0, none⟩ = some (.int .u64 x119000_1) ∧ w10.cell? ⟨gb118, 1, none⟩ = some (.int .u64 x119001_1) := hS_
           refine norm_ (a' := ?_) ?_ ?_
           rotate_left
           ·
            simp only [putAll, Act.put, List.setIfInBounds_toArray, List.set_cons_zero, List.set_cons_succ]
            rfl
           refine two_ (i := 2) (j := 8) (Ni := some 10) (Nj := some 5) #[true, true, true, false, false, false, false, true, false, false, false, false] #[true, true, false, false, false, false, false, true, true, false, false, false] rfl rfl rfl rfl (two_of HT_.out (by kernel_rfl)) (by decide) (by decide) (fun K hK => ?_) (fun K hK => ?_)
           ·
            skip
            refine goes_ Try.func20 (by kernel_rfl) rfl #[.agg #[.int .u64 x119000_1, .int .u64 x119001_1], .agg #[.int .u64 t119, .int .u64 t120]] (by rfl) rfl rfl (by (try simp only [List.map_toArray, List.map_cons, List.map_nil]); first | done | rfl | (simp only [List.length_drop, List.length_take]; rfl)) ?_
            with_reducible refine (wide_Div.calls x119000_1 x119001_1 t119 t120 t121 t122 t123 t124 t125 _ A4.out).mono ?_
            rintro e w11 ⟨rfl, hb⟩
            refine ⟨_, rfl, ?_⟩
            have n0_ := Aside0.mk (Kd.R_below (by (with_reducible repeat (first | apply Kd.R_alloc | apply Kd.R_drewN | apply Kd.R_drew)); exact HO_3.out) hb)
            have n1_ := Aside0.mk (blk_below (bT BK118.out) hb)
            have n2_ := Aside0.mk (blk_below (bT BK126.out) hb)
            have n3_ := Aside0.mk (below_step (bW HB.out) hb)
            clear HO_3 BK118 BK126 HB
            have HO_3 := n0_
            have BK118 := n1_
            have BK126 := n2_
            have HB := n3_
            clear n0_ n1_ n2_ n3_
            (try clear hb)
            (try clear hb2)
            (try clear hk)
            (try clear hi)
            refine hK.out _ _ ⟨(blk_cell BK118.out 0).trans rfl, (blk_cell BK118.out 1).trans rfl⟩ (fun hHeld => ?_)
            clear hK K
            refine norm_ (a' := ?_) ?_ ?_
            rotate_left
            ·
             show Act.put _ (some 10) _ = _
             simp only [Act.put, List.setIfInBounds_toArray, List.set_cons_zero, List.set_cons_succ, i64_w, i32_w]
             rfl
            refine pure_ (i := 3) (N := some 7) (v := ?_) (a' := ?_) #[true, true, true, true, false, false, false, true, false, false, false, false] rfl rfl (any_of HT_.out (by kernel_rfl)) (fun _ _ _ h => h) (Or.inl ⟨by rfl, ?_⟩) ?_ ?_
            rotate_left
            ·
             intro w'
             go_simp
             with_reducible rfl
            rotate_left
            ·
             simp only [Act.put, List.setIfInBounds_toArray, List.set_cons_zero, List.set_cons_succ, i64_w, i32_w]
             rfl
            refine pure_ (i := 4) (N := some 11) (v := ?_) (a' := ?_) #[true, true, true, true, true, false, false, true, false, false, false, false] rfl rfl (any_of HT_.out (by kernel_rfl)) (fun _ _ _ h => h) (Or.inl ⟨by rfl, ?_⟩) ?_ ?_
            rotate_left
            ·
             intro w'
             go_simp
             with_reducible rfl
            rotate_left
            ·
             simp only [Act.put, List.setIfInBounds_toArray, List.set_cons_zero, List.set_cons_succ, i64_w, i32_w]
             rfl
            refine pure_ (i := 5) (N := some 12) (v := ?_) (a' := ?_) #[true, true, true, true, true, true, false, true, false, false, false, false] rfl rfl (any_of HT_.out (by kernel_rfl)) (fun _ _ _ h => h) (Or.inl ⟨by rfl, ?_⟩) ?_ ?_
            rotate_left
            ·
             intro w'
             go_simp
             with_reducible rfl
            rotate_left
            ·
             simp only [Act.put, List.setIfInBounds_toArray, List.set_cons_zero, List.set_cons_succ, i64_w, i32_w]
             rfl
            refine pure_ (i := 6) (N := some 13) (v := ?_) (a' := ?_) #[true, true, true, true, true, true, true, true, false, false, false, false] rfl rfl (any_of HT_.out (by kernel_rfl)) (fun _ _ _ h => h) (Or.inl ⟨by rfl, ?_⟩) ?_ ?_
            rotate_left
            ·
             intro w'
             go_simp
             with_reducible rfl
            rotate_left
            ·
             simp only [Act.put, List.setIfInBounds_toArray, List.set_cons_zero, List.set_cons_succ, i64_w, i32_w]
             rfl
            exact norm_ (by first | (simp only [putAll, Act.put, List.setIfInBounds_toArray, List.set_cons_zero, List.set_cons_succ]; done) | (simp only [putAll, Act.put, List.setIfInBounds_toArray, List.set_cons_zero, List.set_cons_succ]; rfl)) (hJ1_2_7 (gb126) _ ⟨hHeld, (by (with_reducible repeat (first | apply Kd.R_alloc | apply Kd.R_drewN | apply Kd.R_drew)); exact HO_3.out), (bT BK118.out), (bT BK126.out), GW126.out, GE126.out, NB118_126.out, NB126_118.out, (bW HB.out)⟩)
           ·
            skip
            refine box_step ?hg (N := 5) ?hd (cs := #[.int .u64 0, .int .u64 0]) (t := 24) ?hr ?_; (case hd => rfl); (case hg => rfl); (case hr => first | (go_simp; done) | (go_simp; rfl))
            intro gb127 hg w11 hbox hb
            have n0_ := Aside0.mk (Kd.R_below (by (with_reducible repeat (first | apply Kd.R_alloc | apply Kd.R_drewN | apply Kd.R_drew)); exact HO_3.out) hb)
            have n1_ := Aside0.mk (blk_below (bT BK118.out) hb)
            have n2_ := Aside0.mk (blk_below (bT BK126.out) hb)
            have n3_ := Aside0.mk (below_step (bW HB.out) hb)
            have n4_ := Aside0.mk (hbox)
            have n5_ := Aside0.mk ((by rw [hg]; exact (below_size (bW HB.out)) : w.heap.size ≤ gb127))
            have n6_ := Aside0.mk ((by rw [hg]; exact (below_size (bW HB.out)) : w.heap.size ≤ gb127))
            have n7_ := Aside0.mk ((by rw [hg]; exact Nat.ne_of_lt (blk_lt (bT BK118.out)) : gb118 ≠ gb127))
            have n8_ := Aside0.mk ((by rw [hg]; exact Nat.ne_of_gt (blk_lt (bT BK118.out)) : gb127 ≠ gb118))
            have n9_ := Aside0.mk ((by rw [hg]; exact Nat.ne_of_lt (blk_lt (bT BK126.out)) : gb126 ≠ gb127))
            have n10_ := Aside0.mk ((by rw [hg]; exact Nat.ne_of_gt (blk_lt (bT BK126.out)) : gb127 ≠ gb126))
            clear HO_3 BK118 BK126 HB
            have HO_3 := n0_
            have BK118 := n1_
            have BK126 := n2_
            have HB := n3_
            have BK127 := n4_
            have GW127 := n5_
            have GE127 := n6_
            have NB118_127 := n7_
            have NB127_118 := n8_
            have NB126_127 := n9_
            have NB127_126 := n10_
            clear n0_ n1_ n2_ n3_ n4_ n5_ n6_ n7_ n8_ n9_ n10_ hb hbox hg
            refine hK.out _ _ ⟨(blk_cell BK118.out 0).trans rfl, (blk_cell BK118.out 1).trans rfl⟩ (fun hHeld => ?_)
            clear hK K
            refine norm_ (a' := ?_) ?_ ?_
            rotate_left
            ·
             show Act.put _ (some 5) _ = _
             simp only [Act.put, List.setIfInBounds_toArray, List.set_cons_zero, List.set_cons_succ, i64_w, i32_w]
             rfl
            exact norm_ (by first | (simp only [putAll, Act.put, List.setIfInBounds_toArray, List.set_cons_zero, List.set_cons_succ]; done) | (simp only [putAll, Act.put, List.setIfInBounds_toArray, List.set_cons_zero, List.set_cons_succ]; rfl)) (hJ1_7_8 (gb126, gb127) _ ⟨hHeld, (by (with_reducible repeat (first | apply Kd.R_alloc | apply Kd.R_drewN | apply Kd.R_drew)); exact HO_3.out), (bT BK118.out), (bT BK126.out), (bT BK127.out), GW126.out, GE126.out, NB118_126.out, NB126_118.out, NB127_126.out, NB126_127.out, GW127.out, GE127.out, NB118_127.out, NB127_118.out, (bW HB.out)⟩)
         ·
          skip
          rintro _ w10 ⟨hS_, h0_, h1_, h2_⟩
          have n0_ : Aside0 (Kd.R (Kd.int .u8) 5 w10 w.heap.size (fun _ => True) u3 x3_1) := ⟨h0_⟩
          have n1_ : Aside0 (w10.heap[gb118]? = some (.cells #[.int .u64 x119000_1, .int .u64 x119001_1] 24 (0, 0))) := ⟨h1_⟩
          have n2_ : Aside0 (Below w.heap.size w w10) := ⟨h2_⟩
          clear HO_3 BK118 HB h0_ h1_ h2_
          have HO_3 := n0_
          have BK118 := n1_
          have HB := n2_
          clear n0_ n1_ n2_
          have hHeld : w10.cell? ⟨gb118, 0, none⟩ = some (.int .u64 x119000_1) ∧ w10.cell? ⟨gb118, 1, none⟩ = some (.int .u64 x119001_1) := hS_
          refine norm_ (a' := ?_) ?_ ?_
          rotate_left
          ·
           simp only [putAll, Act.put, List.setIfInBounds_toArray, List.set_cons_zero, List.set_cons_succ]
           rfl
          refine two_ (i := 7) (j := 8) (Ni := some 4) (Nj := some 5) #[true, true, true, true, true, true, true, true, false, false, false, false] #[true, true, true, true, true, true, true, false, true, false, false, false] rfl rfl rfl rfl (two_of HT_.out (by kernel_rfl)) (by decide) (by decide) (fun K hK => ?_) (fun K hK => ?_)
          ·
           skip
           refine box_step ?hg (N := 4) ?hd (cs := #[.int .u64 0, .int .u64 0]) (t := 24) ?hr ?_; (case hd => rfl); (case hg => rfl); (case hr => first | (go_simp; done) | (go_simp; rfl))
           intro gb126 hg w11 hbox hb
           have n0_ := Aside0.mk (Kd.R_below (by (with_reducible repeat (first | apply Kd.R_alloc | apply Kd.R_drewN | apply Kd.R_drew)); exact HO_3.out) hb)
           have n1_ := Aside0.mk (blk_below (bT BK118.out) hb)
           have n2_ := Aside0.mk (below_step (bW HB.out) hb)
           have n3_ := Aside0.mk (hbox)
           have n4_ := Aside0.mk ((by rw [hg]; exact (below_size (bW HB.out)) : w.heap.size ≤ gb126))
           have n5_ := Aside0.mk ((by rw [hg]; exact (below_size (bW HB.out)) : w.heap.size ≤ gb126))
           have n6_ := Aside0.mk ((by rw [hg]; exact Nat.ne_of_lt (blk_lt (bT BK118.out)) : gb118 ≠ gb126))
           have n7_ := Aside0.mk ((by rw [hg]; exact Nat.ne_of_gt (blk_lt (bT BK118.out)) : gb126 ≠ gb118))
           clear HO_3 BK118 HB
           have HO_3 := n0_
           have BK118 := n1_
           have HB := n2_
           have BK126 := n3_
           have GW126 := n4_
           have GE126 := n5_
           have NB118_126 := n6_
           have NB126_118 := n7_
           clear n0_ n1_ n2_ n3_ n4_ n5_ n6_ n7_ hb hbox hg
           refine hK.out _ _ ⟨(blk_cell BK118.out 0).trans rfl, (blk_cell BK118.out 1).trans rfl⟩ (fun hHeld => ?_)
           clear hK K
           refine norm_ (a' := ?_) ?_ ?_
           rotate_left
           ·
            show Act.put _ (some 4) _ = _
            simp only [Act.put, List.setIfInBounds_toArray, List.set_cons_zero, List.set_cons_succ, i64_w, i32_w]
            rfl
           exact norm_ (by first | (simp only [putAll, Act.put, List.setIfInBounds_toArray, List.set_cons_zero, List.set_cons_succ]; done) | (simp only [putAll, Act.put, List.setIfInBounds_toArray, List.set_cons_zero, List.set_cons_succ]; rfl)) (hJ1_2_7 (gb126) _ ⟨hHeld, (by (with_reducible repeat (first | apply Kd.R_alloc | apply Kd.R_drewN | apply Kd.R_drew)); exact HO_3.out), (bT BK118.out), (bT BK126.out), GW126.out, GE126.out, NB118_126.out, NB126_118.out, (bW HB.out)⟩)
          ·
           skip
           refine box_step ?hg (N := 5) ?hd (cs := #[.int .u64 0, .int .u64 0]) (t := 24) ?hr ?_; (case hd => rfl); (case hg => rfl); (case hr => first | (go_simp; done) | (go_simp; rfl))
           intro gb127 hg w11 hbox hb
           have n0_ := Aside0.mk (Kd.R_below (by (with_reducible repeat (first | apply Kd.R_alloc | apply Kd.R_drewN | apply Kd.R_drew)); exact HO_3.out) hb)
           have n1_ := Aside0.mk (blk_below (bT BK118.out) hb)
           have n2_ := Aside0.mk (below_step (bW HB.out) hb)
           have n3_ := Aside0.mk (hbox)
           have n4_ := Aside0.mk ((by rw [hg]; exact (below_size (bW HB.out)) : w.heap.size ≤ gb127))
           have n5_ := Aside0.mk ((by rw [hg]; exact (below_size (bW HB.out)) : w.heap.size ≤ gb127))
           have n6_ := Aside0.mk ((by rw [hg]; exact Nat.ne_of_lt (blk_lt (bT BK118.out)) : gb118 ≠ gb127))
           have n7_ := Aside0.mk ((by rw [hg]; exact Nat.ne_of_gt (blk_lt (bT BK118.out)) : gb127 ≠ gb118))
           clear HO_3 BK118 HB
           have HO_3 := n0_
           have BK118 := n1_
           have HB := n2_
           have BK127 := n3_
           have GW127 := n4_
           have GE127 := n5_
           have NB118_127 := n6_
           have NB127_118 := n7_
           clear n0_ n1_ n2_ n3_ n4_ n5_ n6_ n7_ hb hbox hg
           refine hK.out _ _ ⟨(blk_cell BK118.out 0).trans rfl, (blk_cell BK118.out 1).trans rfl⟩ (fun hHeld => ?_)
           clear hK K
           refine norm_ (a' := ?_) ?_ ?_
           rotate_left
           ·
            show Act.put _ (some 5) _ = _
            simp only [Act.put, List.setIfInBounds_toArray, List.set_cons_zero, List.set_cons_succ, i64_w, i32_w]
            rfl
           exact norm_ (by first | (simp only [putAll, Act.put, List.setIfInBounds_toArray, List.set_cons_zero, List.set_cons_succ]; done) | (simp only [putAll, Act.put, List.setIfInBounds_toArray, List.set_cons_zero, List.set_cons_succ]; rfl)) (hJ1_2_8 (gb127) _ ⟨hHeld, (by (with_reducible repeat (first | apply Kd.R_alloc | apply Kd.R_drewN | apply Kd.R_drew)); exact HO_3.out), (bT BK118.out), (bT BK127.out), GW127.out, GE127.out, NB118_127.out, NB127_118.out, (bW HB.out)⟩)
        ·
         skip
         rintro ⟨gb126, gb127⟩ w11 ⟨hS_, h0_, h1_, h2_, h3_, h4_, h5_, h6_, h7_, h8_, h9_, h10_, h11_, h12_, h13_, h14_⟩
         have n0_ : Aside0 (Kd.R (Kd.int .u8) 5 w11 w.heap.size (fun _ => True) u3 x3_1) := ⟨h0_⟩
         have n1_ : Aside0 (w11.heap[gb118]? = some (.cells #[.int .u64 x119000_1, .int .u64 x119001_1] 24 (0, 0))) := ⟨h1_⟩
         have n2_ : Aside0 (w11.heap[gb126]? = some (.cells #[.int .u64 0, .int .u64 0] 24 (0, 0))) := ⟨h2_⟩
         have n3_ : Aside0 (w11.heap[gb127]? = some (.cells #[.int .u64 0, .int .u64 0] 24 (0, 0))) := ⟨h3_⟩
         have n4_ : Aside0 (w.heap.size ≤ gb126) := ⟨h4_⟩
         have n5_ : Aside0 (w.heap.size ≤ gb126) := ⟨h5_⟩
         have n6_ : Aside0 (gb118 ≠ gb126) := ⟨h6_⟩
         have n7_ : Aside0 (gb126 ≠ gb118) := ⟨h7_⟩
         have n8_ : Aside0 (gb127 ≠ gb126) := ⟨h8_⟩
         have n9_ : Aside0 (gb126 ≠ gb127) := ⟨h9_⟩
         have n10_ : Aside0 (w.heap.size ≤ gb127) := ⟨h10_⟩
         have n11_ : Aside0 (w.heap.size ≤ gb127) := ⟨h11_⟩
         have n12_ : Aside0 (gb118 ≠ gb127) := ⟨h12_⟩
         have n13_ : Aside0 (gb127 ≠ gb118) := ⟨h13_⟩
         have n14_ : Aside0 (Below w.heap.size w w11) := ⟨h14_⟩
         clear HO_3 BK118 HB h0_ h1_ h2_ h3_ h4_ h5_ h6_ h7_ h8_ h9_ h10_ h11_ h12_ h13_ h14_
         have HO_3 := n0_
         have BK118 := n1_
         have BK126 := n2_
         have BK127 := n3_
         have GW126 := n4_
         have GE126 := n5_
         have NB118_126 := n6_
         have NB126_118 := n7_
         have NB127_126 := n8_
         have NB126_127 := n9_
         have GW127 := n10_
         have GE127 := n11_
         have NB118_127 := n12_
         have NB127_118 := n13_
         have HB := n14_
         clear n0_ n1_ n2_ n3_ n4_ n5_ n6_ n7_ n8_ n9_ n10_ n11_ n12_ n13_ n14_
         have hHeld : w11.cell? ⟨gb118, 0, none⟩ = some (.int .u64 x119000_1) ∧ w11.cell? ⟨gb118, 1, none⟩ = some (.int .u64 x119001_1) := hS_
         refine norm_ (a' := ?_) ?_ ?_
         rotate_left
         ·
          simp only [putAll, Act.put, List.setIfInBounds_toArray, List.set_cons_zero, List.set_cons_succ]
          rfl
         refine one_ (i := 2) (N := some 10) #[true, true, true, false, false, false, false, true, true, false, false, false] rfl rfl (one_of HT_.out (by kernel_rfl)) (by decide) (fun K hK => ?_)
         refine goes_ Try.func20 (by kernel_rfl) rfl #[.agg #[.int .u64 x119000_1, .int .u64 x119001_1], .agg #[.int .u64 t119, .int .u64 t120]] (by rfl) rfl rfl (by (try simp only [List.map_toArray, List.map_cons, List.map_nil]); first | done | rfl | (simp only [List.length_drop, List.length_take]; rfl)) ?_
         with_reducible refine (wide_Div.calls x119000_1 x119001_1 t119 t120 t121 t122 t123 t124 t125 _ A4.out).mono ?_
         rintro e w12 ⟨rfl, hb⟩
         refine ⟨_, rfl, ?_⟩
         have n0_ := Aside0.mk (Kd.R_below (by (with_reducible repeat (first | apply Kd.R_alloc | apply Kd.R_drewN | apply Kd.R_drew)); exact HO_3.out) hb)
         have n1_ := Aside0.mk (blk_below (bT BK118.out) hb)
         have n2_ := Aside0.mk (blk_below (bT BK126.out) hb)
         have n3_ := Aside0.mk (blk_below (bT BK127.out) hb)
         have n4_ := Aside0.mk (below_step (bW HB.out) hb)
         clear HO_3 BK118 BK126 BK127 HB
         have HO_3 := n0_
         have BK118 := n1_
         have BK126 := n2_
         have BK127 := n3_
         have HB := n4_
         clear n0_ n1_ n2_ n3_ n4_
         (try clear hb)
         (try clear hb2)
         (try clear hk)
         (try clear hi)
         refine hK.out _ _ ⟨(blk_cell BK118.out 0).trans rfl, (blk_cell BK118.out 1).trans rfl⟩ (fun hHeld => ?_)
         clear hK K
         refine norm_ (a' := ?_) ?_ ?_
         rotate_left
         ·
          show Act.put _ (some 10) _ = _
          simp only [Act.put, List.setIfInBounds_toArray, List.set_cons_zero, List.set_cons_succ, i64_w, i32_w]
          rfl
         refine pure_ (i := 3) (N := some 7) (v := ?_) (a' := ?_) #[true, true, true, true, false, false, false, true, true, false, false, false] rfl rfl (any_of HT_.out (by kernel_rfl)) (fun _ _ _ h => h) (Or.inl ⟨by rfl, ?_⟩) ?_ ?_
         rotate_left
         ·
          intro w'
          go_simp
          with_reducible rfl
         rotate_left
         ·
          simp only [Act.put, List.setIfInBounds_toArray, List.set_cons_zero, List.set_cons_succ, i64_w, i32_w]
          rfl
         refine pure_ (i := 4) (N := some 11) (v := ?_) (a' := ?_) #[true, true, true, true, true, false, false, true, true, false, false, false] rfl rfl (any_of HT_.out (by kernel_rfl)) (fun _ _ _ h => h) (Or.inl ⟨by rfl, ?_⟩) ?_ ?_
         rotate_left
         ·
          intro w'
          go_simp
          with_reducible rfl
         rotate_left
         ·
          simp only [Act.put, List.setIfInBounds_toArray, List.set_cons_zero, List.set_cons_succ, i64_w, i32_w]
          rfl
         refine pure_ (i := 5) (N := some 12) (v := ?_) (a' := ?_) #[true, true, true, true, true, true, false, true, true, false, false, false] rfl rfl (any_of HT_.out (by kernel_rfl)) (fun _ _ _ h => h) (Or.inl ⟨by rfl, ?_⟩) ?_ ?_
         rotate_left
         ·
          intro w'
          go_simp
          with_reducible rfl
         rotate_left
         ·
          simp only [Act.put, List.setIfInBounds_toArray, List.set_cons_zero, List.set_cons_succ, i64_w, i32_w]
          rfl
         refine pure_ (i := 6) (N := some 13) (v := ?_) (a' := ?_) #[true, true, true, true, true, true, true, true, true, false, false, false] rfl rfl (any_of HT_.out (by kernel_rfl)) (fun _ _ _ h => h) (Or.inl ⟨by rfl, ?_⟩) ?_ ?_
         rotate_left
         ·
          intro w'
          go_simp
          with_reducible rfl
         rotate_left
         ·
          simp only [Act.put, List.setIfInBounds_toArray, List.set_cons_zero, List.set_cons_succ, i64_w, i32_w]
          rfl
         exact norm_ (by first | (simp only [putAll, Act.put, List.setIfInBounds_toArray, List.set_cons_zero, List.set_cons_succ]; done) | (simp only [putAll, Act.put, List.setIfInBounds_toArray, List.set_cons_zero, List.set_cons_succ]; rfl)) (hJ1_2_7_8 (gb126, gb127) _ ⟨hHeld, (by (with_reducible repeat (first | apply Kd.R_alloc | apply Kd.R_drewN | apply Kd.R_drew)); exact HO_3.out), (bT BK118.out), (bT BK126.out), (bT BK127.out), GW126.out, GE126.out, NB118_126.out, NB126_118.out, NB127_126.out, NB126_127.out, GW127.out, GE127.out, NB118_127.out, NB127_118.out, (bW HB.out)⟩)
       ·
        skip
        rintro gb127 w11 ⟨hS_, h0_, h1_, h2_, h3_, h4_, h5_, h6_, h7_⟩
        have n0_ : Aside0 (Kd.R (Kd.int .u8) 5 w11 w.heap.size (fun _ => True) u3 x3_1) := ⟨h0_⟩
        have n1_ : Aside0 (w11.heap[gb118]? = some (.cells #[.int .u64 x119000_1, .int .u64 x119001_1] 24 (0, 0))) := ⟨h1_⟩
        have n2_ : Aside0 (w11.heap[gb127]? = some (.cells #[.int .u64 0, .int .u64 0] 24 (0, 0))) := ⟨h2_⟩
        have n3_ : Aside0 (w.heap.size ≤ gb127) := ⟨h3_⟩
        have n4_ : Aside0 (w.heap.size ≤ gb127) := ⟨h4_⟩
        have n5_ : Aside0 (gb118 ≠ gb127) := ⟨h5_⟩
        have n6_ : Aside0 (gb127 ≠ gb118) := ⟨h6_⟩
        have n7_ : Aside0 (Below w.heap.size w w11) := ⟨h7_⟩
        clear HO_3 BK118 HB h0_ h1_ h2_ h3_ h4_ h5_ h6_ h7_
        have HO_3 := n0_
        have BK118 := n1_
        have BK127 := n2_
        have GW127 := n3_
        have GE127 := n4_
        have NB118_127 := n5_
        have NB127_118 := n6_
        have HB := n7_
        clear n0_ n1_ n2_ n3_ n4_ n5_ n6_ n7_
        have hHeld : w11.cell? ⟨gb118, 0, none⟩ = some (.int .u64 x119000_1) ∧ w11.cell? ⟨gb118, 1, none⟩ = some (.int .u64 x119001_1) := hS_
        refine norm_ (a' := ?_) ?_ ?_
        rotate_left
        ·
         simp only [putAll, Act.put, List.setIfInBounds_toArray, List.set_cons_zero, List.set_cons_succ]
         rfl
        refine one_ (i := 7) (N := some 4) #[true, true, true, true, true, true, true, true, true, false, false, false] rfl rfl (one_of HT_.out (by kernel_rfl)) (by decide) (fun K hK => ?_)
        refine box_step ?hg (N := 4) ?hd (cs := #[.int .u64 0, .int .u64 0]) (t := 24) ?hr ?_; (case hd => rfl); (case hg => rfl); (case hr => first | (go_simp; done) | (go_simp; rfl))
        intro gb126 hg w12 hbox hb
        have n0_ := Aside0.mk (Kd.R_below (by (with_reducible repeat (first | apply Kd.R_alloc | apply Kd.R_drewN | apply Kd.R_drew)); exact HO_3.out) hb)
        have n1_ := Aside0.mk (blk_below (bT BK118.out) hb)
        have n2_ := Aside0.mk (blk_below (bT BK127.out) hb)
        have n3_ := Aside0.mk (below_step (bW HB.out) hb)
        have n4_ := Aside0.mk (hbox)
        have n5_ := Aside0.mk ((by rw [hg]; exact (below_size (bW HB.out)) : w.heap.size ≤ gb126))
        have n6_ := Aside0.mk ((by rw [hg]; exact (below_size (bW HB.out)) : w.heap.size ≤ gb126))
        have n7_ := Aside0.mk ((by rw [hg]; exact Nat.ne_of_lt (blk_lt (bT BK118.out)) : gb118 ≠ gb126))
        have n8_ := Aside0.mk ((by rw [hg]; exact Nat.ne_of_gt (blk_lt (bT BK118.out)) : gb126 ≠ gb118))
        have n9_ := Aside0.mk ((by rw [hg]; exact Nat.ne_of_lt (blk_lt (bT BK127.out)) : gb127 ≠ gb126))
        have n10_ := Aside0.mk ((by rw [hg]; exact Nat.ne_of_gt (blk_lt (bT BK127.out)) : gb126 ≠ gb127))
        clear HO_3 BK118 BK127 HB
        have HO_3 := n0_
        have BK118 := n1_
        have BK127 := n2_
        have HB := n3_
        have BK126 := n4_
        have GW126 := n5_
        have GE126 := n6_
        have NB118_126 := n7_
        have NB126_118 := n8_
        have NB127_126 := n9_
        have NB126_127 := n10_
        clear n0_ n1_ n2_ n3_ n4_ n5_ n6_ n7_ n8_ n9_ n10_ hb hbox hg
        refine hK.out _ _ ⟨(blk_cell BK118.out 0).trans rfl, (blk_cell BK118.out 1).trans rfl⟩ (fun hHeld => ?_)
        clear hK K
        refine norm_ (a' := ?_) ?_ ?_
        rotate_left
        ·
         show Act.put _ (some 4) _ = _
         simp only [Act.put, List.setIfInBounds_toArray, List.set_cons_zero, List.set_cons_succ, i64_w, i32_w]
         rfl
        exact norm_ (by first | (simp only [putAll, Act.put, List.setIfInBounds_toArray, List.set_cons_zero, List.set_cons_succ]; done) | (simp only [putAll, Act.put, List.setIfInBounds_toArray, List.set_cons_zero, List.set_cons_succ]; rfl)) (hJ1_2_7_8 (gb126, gb127) _ ⟨hHeld, (by (with_reducible repeat (first | apply Kd.R_alloc | apply Kd.R_drewN | apply Kd.R_drew)); exact HO_3.out), (bT BK118.out), (bT BK126.out), (bT BK127.out), GW126.out, GE126.out, NB118_126.out, NB126_118.out, NB127_126.out, NB126_127.out, GW127.out, GE127.out, NB118_127.out, NB127_118.out, (bW HB.out)⟩)
      ·
       skip
       rintro gb126 w11 ⟨hS_, h0_, h1_, h2_, h3_, h4_, h5_, h6_, h7_⟩
       have n0_ : Aside0 (Kd.R (Kd.int .u8) 5 w11 w.heap.size (fun _ => True) u3 x3_1) := ⟨h0_⟩
       have n1_ : Aside0 (w11.heap[gb118]? = some (.cells #[.int .u64 x119000_1, .int .u64 x119001_1] 24 (0, 0))) := ⟨h1_⟩
       have n2_ : Aside0 (w11.heap[gb126]? = some (.cells #[.int .u64 0, .int .u64 0] 24 (0, 0))) := ⟨h2_⟩
       have n3_ : Aside0 (w.heap.size ≤ gb126) := ⟨h3_⟩
       have n4_ : Aside0 (w.heap.size ≤ gb126) := ⟨h4_⟩
       have n5_ : Aside0 (gb118 ≠ gb126) := ⟨h5_⟩
       have n6_ : Aside0 (gb126 ≠ gb118) := ⟨h6_⟩
       have n7_ : Aside0 (Below w.heap.size w w11) := ⟨h7_⟩
       clear HO_3 BK118 HB h0_ h1_ h2_ h3_ h4_ h5_ h6_ h7_
       have HO_3 := n0_
       have BK118 := n1_
       have BK126 := n2_
       have GW126 := n3_
       have GE126 := n4_
       have NB118_126 := n5_
       have NB126_118 := n6_
       have HB := n7_
       clear n0_ n1_ n2_ n3_ n4_ n5_ n6_ n7_
       have hHeld : w11.cell? ⟨gb118, 0, none⟩ = some (.int .u64 x119000_1) ∧ w11.cell? ⟨gb118, 1, none⟩ = some (.int .u64 x119001_1) := hS_
       refine norm_ (a' := ?_) ?_ ?_
       rotate_left
       ·
        simp only [putAll, Act.put, List.setIfInBounds_toArray, List.set_cons_zero, List.set_cons_succ]
        rfl
       refine one_ (i := 8) (N := some 5) #[true, true, true, true, true, true, true, true, true, false, false, false] rfl rfl (one_of HT_.out (by kernel_rfl)) (by decide) (fun K hK => ?_)
       refine box_step ?hg (N := 5) ?hd (cs := #[.int .u64 0, .int .u64 0]) (t := 24) ?hr ?_; (case hd => rfl); (case hg => rfl); (case hr => first | (go_simp; done) | (go_simp; rfl))
       intro gb127 hg w12 hbox hb
       have n0_ := Aside0.mk (Kd.R_below (by (with_reducible repeat (first | apply Kd.R_alloc | apply Kd.R_drewN | apply Kd.R_drew)); exact HO_3.out) hb)
       have n1_ := Aside0.mk (blk_below (bT BK118.out) hb)
       have n2_ := Aside0.mk (blk_below (bT BK126.out) hb)
       have n3_ := Aside0.mk (below_step (bW HB.out) hb)
       have n4_ := Aside0.mk (hbox)
       have n5_ := Aside0.mk ((by rw [hg]; exact (below_size (bW HB.out)) : w.heap.size ≤ gb127))
       have n6_ := Aside0.mk ((by rw [hg]; exact (below_size (bW HB.out)) : w.heap.size ≤ gb127))
       have n7_ := Aside0.mk ((by rw [hg]; exact Nat.ne_of_lt (blk_lt (bT BK118.out)) : gb118 ≠ gb127))
       have n8_ := Aside0.mk ((by rw [hg]; exact Nat.ne_of_gt (blk_lt (bT BK118.out)) : gb127 ≠ gb118))
       have n9_ := Aside0.mk ((by rw [hg]; exact Nat.ne_of_lt (blk_lt (bT BK126.out)) : gb126 ≠ gb127))
       have n10_ := Aside0.mk ((by rw [hg]; exact Nat.ne_of_gt (blk_lt (bT BK126.out)) : gb127 ≠ gb126))
       clear HO_3 BK118 BK126 HB
       have HO_3 := n0_
       have BK118 := n1_
       have BK126 := n2_
       have HB := n3_
       have BK127 := n4_
       have GW127 := n5_
       have GE127 := n6_
       have NB118_127 := n7_
       have NB127_118 := n8_
       have NB126_127 := n9_
       have NB127_126 := n10_
       clear n0_ n1_ n2_ n3_ n4_ n5_ n6_ n7_ n8_ n9_ n10_ hb hbox hg
       refine hK.out _ _ ⟨(blk_cell BK118.out 0).trans rfl, (blk_cell BK118.out 1).trans rfl⟩ (fun hHeld => ?_)
       clear hK K
       refine norm_ (a' := ?_) ?_ ?_
       rotate_left
       ·
        show Act.put _ (some 5) _ = _
        simp only [Act.put, List.setIfInBounds_toArray, List.set_cons_zero, List.set_cons_succ, i64_w, i32_w]
        rfl
       exact norm_ (by first | (simp only [putAll, Act.put, List.setIfInBounds_toArray, List.set_cons_zero, List.set_cons_succ]; done) | (simp only [putAll, Act.put, List.setIfInBounds_toArray, List.set_cons_zero, List.set_cons_succ]; rfl)) (hJ1_2_7_8 (gb126, gb127) _ ⟨hHeld, (by (with_reducible repeat (first | apply Kd.R_alloc | apply Kd.R_drewN | apply Kd.R_drew)); exact HO_3.out), (bT BK118.out), (bT BK126.out), (bT BK127.out), GW126.out, GE126.out, NB118_126.out, NB126_118.out, NB127_126.out, NB126_127.out, GW127.out, GE127.out, NB118_127.out, NB127_118.out, (bW HB.out)⟩)
     rintro ⟨gb126, gb127⟩ w12 ⟨hS_, h0_, h1_, h2_, h3_, h4_, h5_, h6_, h7_, h8_, h9_, h10_, h11_, h12_, h13_, h14_⟩
     have n0_ : Aside0 (Kd.R (Kd.int .u8) 5 w12 w.heap.size (fun _ => True) u3 x3_1) := ⟨h0_⟩
     have n1_ : Aside0 (w12.heap[gb118]? = some (.cells #[.int .u64 x119000_1, .int .u64 x119001_1] 24 (0, 0))) := ⟨h1_⟩
     have n2_ : Aside0 (w12.heap[gb126]? = some (.cells #[.int .u64 0, .int .u64 0] 24 (0, 0))) := ⟨h2_⟩
     have n3_ : Aside0 (w12.heap[gb127]? = some (.cells #[.int .u64 0, .int .u64 0] 24 (0, 0))) := ⟨h3_⟩
     have n4_ : Aside0 (w.heap.size ≤ gb126) := ⟨h4_⟩
     have n5_ : Aside0 (w.heap.size ≤ gb126) := ⟨h5_⟩
     have n6_ : Aside0 (gb118 ≠ gb126) := ⟨h6_⟩
     have n7_ : Aside0 (gb126 ≠ gb118) := ⟨h7_⟩
     have n8_ : Aside0 (gb127 ≠ gb126) := ⟨h8_⟩
     have n9_ : Aside0 (gb126 ≠ gb127) := ⟨h9_⟩
     have n10_ : Aside0 (w.heap.size ≤ gb127) := ⟨h10_⟩
     have n11_ : Aside0 (w.heap.size ≤ gb127) := ⟨h11_⟩
     have n12_ : Aside0 (gb118 ≠ gb127) := ⟨h12_⟩
     have n13_ : Aside0 (gb127 ≠ gb118) := ⟨h13_⟩
     have n14_ : Aside0 (Below w.heap.size w w12) := ⟨h14_⟩
     clear HO_3 BK118 HB h0_ h1_ h2_ h3_ h4_ h5_ h6_ h7_ h8_ h9_ h10_ h11_ h12_ h13_ h14_
     have HO_3 := n0_
     have BK118 := n1_
     have BK126 := n2_
     have BK127 := n3_
     have GW126 := n4_
     have GE126 := n5_
     have NB118_126 := n6_
     have NB126_118 := n7_
     have NB127_126 := n8_
     have NB126_127 := n9_
     have GW127 := n10_
     have GE127 := n11_
     have NB118_127 := n12_
     have NB127_118 := n13_
     have HB := n14_
     clear n0_ n1_ n2_ n3_ n4_ n5_ n6_ n7_ n8_ n9_ n10_ n11_ n12_ n13_ n14_
     have hHeld : w12.cell? ⟨gb118, 0, none⟩ = some (.int .u64 x119000_1) ∧ w12.cell? ⟨gb118, 1, none⟩ = some (.int .u64 x119001_1) := hS_
     refine norm_ (a' := ?_) ?_ ?_
     rotate_left
     ·
      simp only [putAll, Act.put, List.setIfInBounds_toArray, List.set_cons_zero, List.set_cons_succ]
      rfl
     refine one_ (i := 9) (N := none) #[true, true, true, true, true, true, true, true, true, true, false, false] rfl rfl (one_of HT_.out (by kernel_rfl)) (by decide) (fun K hK => ?_)
     have hs13 : w12.cell? ⟨gb126, 0, none⟩ = some (.int .u64 0) := (blk_cell BK126.out 0).trans rfl
     have hfs13 := blk_frozen BK126.out 0
     have hns13_0 := NB118_126.out
     have hns13_2 := NB127_126.out
     have hms13_0 := NB126_118.out
     have hms13_2 := NB126_127.out
     have hs14 : w12.cell? ⟨gb126, 1, none⟩ = some (.int .u64 0) := (blk_cell BK126.out 1).trans rfl
     have hfs14 := blk_frozen BK126.out 1
     have hns14_0 := NB118_126.out
     have hns14_2 := NB127_126.out
     have hms14_0 := NB126_118.out
     have hms14_2 := NB126_127.out
     refine skip_ (w1 := ?_) (by rfl) rfl ?_ ?_
     rotate_left
     ·
      go_simp
      rfl
     refine hK.out _ _ ⟨((cell_far (p := ⟨gb126, _, none⟩) NB118_126.out _).trans (((cell_far (p := ⟨gb126, _, none⟩) NB118_126.out _).trans (hHeld.1)))), ((cell_far (p := ⟨gb126, _, none⟩) NB118_126.out _).trans (((cell_far (p := ⟨gb126, _, none⟩) NB118_126.out _).trans (hHeld.2))))⟩ (fun hHeld => ?_)
     clear hK K
     refine one_ (i := 10) (N := none) #[true, true, true, true, true, true, true, true, true, true, true, false] rfl rfl (one_of HT_.out (by kernel_rfl)) (by decide) (fun K hK => ?_)
     have hs15 : w12.cell? ⟨gb127, 0, none⟩ = some (.int .u64 0) := (blk_cell BK127.out 0).trans rfl
     have hfs15 := blk_frozen BK127.out 0
     have hns15_0 := NB118_127.out
     have hns15_1 := NB126_127.out
     have hms15_0 := NB127_118.out
     have hms15_1 := NB127_126.out
     have hs16 : w12.cell? ⟨gb127, 1, none⟩ = some (.int .u64 0) := (blk_cell BK127.out 1).trans rfl
     have hfs16 := blk_frozen BK127.out 1
     have hns16_0 := NB118_127.out
     have hns16_1 := NB126_127.out
     have hms16_0 := NB127_118.out
     have hms16_1 := NB127_126.out
     refine skip_ (w1 := ?_) (by rfl) rfl ?_ ?_
     rotate_left
     ·
      go_simp
      rfl
     refine hK.out _ _ ⟨((cell_far (p := ⟨gb127, _, none⟩) NB118_127.out _).trans (((cell_far (p := ⟨gb127, _, none⟩) NB118_127.out _).trans (hHeld.1)))), ((cell_far (p := ⟨gb127, _, none⟩) NB118_127.out _).trans (((cell_far (p := ⟨gb127, _, none⟩) NB118_127.out _).trans (hHeld.2))))⟩ (fun hHeld => ?_)
     clear hK K
     refine pure_ (i := 11) (N := some 6) (v := ?_) (a' := ?_) #[true, true, true, true, true, true, true, true, true, true, true, true] rfl rfl (any_of HT_.out (by kernel_rfl)) (fun _ _ _ h => h) (Or.inl ⟨by rfl, ?_⟩) ?_ ?_
     rotate_left
     ·
      intro w'
      go_simp
      with_reducible rfl
     rotate_left
     ·
      simp only [Act.put, List.setIfInBounds_toArray, List.set_cons_zero, List.set_cons_succ, i64_w, i32_w]
      rfl
     refine done_ (done_of HT_.out (by kernel_rfl)) ?_
     have hnb17 := NB127_118.out
     have hnc17 := NB118_127.out
     have hnb18 := NB127_126.out
     have hnc18 := NB126_127.out
     have hcz19_0 : w12.cell? ⟨gb127, 0, none⟩ = some (.int .u64 0) := (blk_cell BK127.out 0).trans rfl
     have hcz19_1 : w12.cell? ⟨gb127, 1, none⟩ = some (.int .u64 0) := (blk_cell BK127.out 1).trans rfl
     have hfz19_0 := blk_frozen BK127.out 0
     have hfz19_1 := blk_frozen BK127.out 1
     try go_wp2_with (first | ((with_reducible refine gate_dst (N := 18) rfl ?_); refine Kd.R_lit (Kd.int .u8) _ 5 ?hg (N := 18) ?hd (xs := ([(48 + ((t124) % 256)) % 256] : List Int)) (inner := [.int .u8 ((48 + ((t124) % 256)) % 256)]) (ok := fun _ => True) (okp := fun _ => True) ?hr ?hp (fun _ hk => hk) trivial (Below.refl _ _) (Nat.le_refl _) (by simp) ?_; (case hd => rfl); (case hg => rfl); (case hr => first | (go_simp; done) | (go_simp; rfl)); (case hp => exact (Reps.one (show Kd.M (Kd.int .u8) _ _ _ ((48 + ((t124) % 256)) % 256) [.int .u8 ((48 + ((t124) % 256)) % 256)] from rfl) (Reps.none _ _))); intro v129 w20 ho21 hb hg_ hnew_; clear hg_ hnew_; (first | rw [← Ny128.out] at ho21 | (simp only [Int.reduceToNat] at ho21; rw [← Ny128.out] at ho21)); have n0_ := Aside0.mk (Kd.R_elder' (by (with_reducible repeat (first | apply Kd.R_alloc | apply Kd.R_drewN | apply Kd.R_drew)); exact (Kd.R_mono (Kd.R_mono (Kd.R_far (p := ⟨gb127, 1, none⟩) (Kd.R_far (p := ⟨gb127, 0, none⟩) (Kd.R_far (p := ⟨gb126, 1, none⟩) (Kd.R_far (p := ⟨gb126, 0, none⟩) (Kd.R_types (Kd.R_types HO_3.out BK126.out (by decide)) BK127.out (by decide)) (fun _ hk => hk.1.2) (.int .u64 t121)) (fun _ hk => hk.1.2) (.int .u64 t122)) (fun _ hk => hk.2) (.int .u64 t123)) (fun _ hk => hk.2) (.int .u64 t124)) (fun _ h_ => h_.1)) (fun _ h_ => h_.1))) (Kd.R_base ho21) hb); have n1_ := Aside0.mk (Kd.R_lower (Kd.R_new' ho21 (Kd.R_lt (by (with_reducible repeat (first | apply Kd.R_alloc | apply Kd.R_drewN | apply Kd.R_drew)); exact (Kd.R_mono (Kd.R_mono (Kd.R_far (p := ⟨gb127, 1, none⟩) (Kd.R_far (p := ⟨gb127, 0, none⟩) (Kd.R_far (p := ⟨gb126, 1, none⟩) (Kd.R_far (p := ⟨gb126, 0, none⟩) (Kd.R_types (Kd.R_types HO_3.out BK126.out (by decide)) BK127.out (by decide)) (fun _ hk => hk.1.2) (.int .u64 t121)) (fun _ hk => hk.1.2) (.int .u64 t122)) (fun _ hk => hk.2) (.int .u64 t123)) (fun _ hk => hk.2) (.int .u64 t124)) (fun _ h_ => h_.1)) (fun _ h_ => h_.1))))) (below_size (bW HB.out))); have n2_ := Aside0.mk (blk_below (g := gb118) (o := .cells #[.int .u64 x119000_1, .int .u64 x119001_1] 24 (0, 0)) (by (with_reducible repeat (first | refine blk_drewN ?_ _ | refine blk_drew ?_ | refine blk_alloc ?_ _)); refine blk_far ?_ NB118_127.out _; (with_reducible repeat (first | refine blk_drewN ?_ _ | refine blk_drew ?_ | refine blk_alloc ?_ _)); refine blk_far ?_ NB118_127.out _; (with_reducible repeat (first | refine blk_drewN ?_ _ | refine blk_drew ?_ | refine blk_alloc ?_ _)); refine blk_far ?_ NB118_126.out _; (with_reducible repeat (first | refine blk_drewN ?_ _ | refine blk_drew ?_ | refine blk_alloc ?_ _)); refine blk_far ?_ NB118_126.out _; (with_reducible repeat (first | refine blk_drewN ?_ _ | refine blk_drew ?_ | refine blk_alloc ?_ _)); exact BK118.out) hb); have n3_ := Aside0.mk (blk_below (g := gb126) (o := .cells #[.int .u64 t121, .int .u64 t122] 24 (0, 0)) (by (with_reducible repeat (first | refine blk_drewN ?_ _ | refine blk_drew ?_ | refine blk_alloc ?_ _)); refine blk_far ?_ NB126_127.out _; (with_reducible repeat (first | refine blk_drewN ?_ _ | refine blk_drew ?_ | refine blk_alloc ?_ _)); refine blk_far ?_ NB126_127.out _; (with_reducible repeat (first | refine blk_drewN ?_ _ | refine blk_drew ?_ | refine blk_alloc ?_ _)); refine blk_put (cs := #[.int .u64 t121, .int .u64 0]) ?_ 1 _ rfl; (with_reducible repeat (first | refine blk_drewN ?_ _ | refine blk_drew ?_ | refine blk_alloc ?_ _)); refine blk_put (cs := #[.int .u64 0, .int .u64 0]) ?_ 0 _ rfl; (with_reducible repeat (first | refine blk_drewN ?_ _ | refine blk_drew ?_ | refine blk_alloc ?_ _)); exact BK126.out) hb); have n4_ := Aside0.mk (blk_below (g := gb127) (o := .cells #[.int .u64 t123, .int .u64 t124] 24 (0, 0)) (by (with_reducible repeat (first | refine blk_drewN ?_ _ | refine blk_drew ?_ | refine blk_alloc ?_ _)); refine blk_put (cs := #[.int .u64 t123, .int .u64 0]) ?_ 1 _ rfl; (with_reducible repeat (first | refine blk_drewN ?_ _ | refine blk_drew ?_ | refine blk_alloc ?_ _)); refine blk_put (cs := #[.int .u64 0, .int .u64 0]) ?_ 0 _ rfl; (with_reducible repeat (first | refine blk_drewN ?_ _ | refine blk_drew ?_ | refine blk_alloc ?_ _)); refine blk_far ?_ NB127_126.out _; (with_reducible repeat (first | refine blk_drewN ?_ _ | refine blk_drew ?_ | refine blk_alloc ?_ _)); refine blk_far ?_ NB127_126.out _; (with_reducible repeat (first | refine blk_drewN ?_ _ | refine blk_drew ?_ | refine blk_alloc ?_ _)); exact BK127.out) hb); have n5_ := Aside0.mk (below_step (bW HB.out) hb); clear HO_3 BK118 BK126 BK127 HB; have HO_3 := n0_; have HO130 := n1_; have BK118 := n2_; have BK126 := n3_; have BK127 := n4_; have HB := n5_; clear n0_ n1_ n2_ n3_ n4_ n5_ hb ho21; obtain ⟨Ao23, co23, eo23⟩ := Kd.R_slice HO_3.out; subst eo23) | ((with_reducible refine gate_builtin (b := .append) (xs := #[.tmp 18, .tmp 19]) rfl ?_); at_builtin; refine Kd.R_append_rows (Kd.int .u8) (w0 := w) w.heap.size rfl (.tmp 18) (.tmp 19) 40 5 (.int .u8 0) 1 rfl Try.underlying40 info5 rfl (by decide) (by omega) v129 y128 x3_1 _ _ _ (fun k_ => some k_ ≠ (.slice Ao23 x3_1.length co23 : Value).ownBlock) (fun _ => False) rfl rfl ?aO ?aR (fun _ _ h => h) (fun _ h => h.elim) ?aF ?aB ?aS ?aL ?_; (case aR => repeat (first | exact (Kd.R_reads' HO_3.out).2.2 | (with_reducible refine Kd.C_alloc ?_ _) | (with_reducible refine Kd.C_drewN ?_ _) | (with_reducible refine Kd.C_drew ?_))); (case aB => exact (bW HB.out)); (case aF => exact (fun k_ hk => Kd.fresh' (Kd.R_lt (by (with_reducible repeat (first | apply Kd.R_alloc | apply Kd.R_drewN | apply Kd.R_drew)); exact HO_3.out)) k_ hk)); (case aO => exact (by (with_reducible repeat (first | apply Kd.R_alloc | apply Kd.R_drewN | apply Kd.R_drew)); exact Kd.R_mono HO130.out (fun _ hk => hk.2))); (case aS => exact (below_size (bW HB.out))); (case aL => have := LMc5.out; omega); intro v132 w22 ho hb hg hat; rw [← Ny131.out] at ho; have n0_ := Aside0.mk (Kd.R_after (ok := (fun _ => True)) (by (with_reducible repeat (first | apply Kd.R_alloc | apply Kd.R_drewN | apply Kd.R_drew)); exact HO_3.out) hg hat); have n1_ := Aside0.mk (blk_grown (bT BK118.out) hg (Kd.R_ne HO130.out BK118.out (by decide))); have n2_ := Aside0.mk (blk_grown (bT BK126.out) hg (Kd.R_ne HO130.out BK126.out (by decide))); have n3_ := Aside0.mk (blk_grown (bT BK127.out) hg (Kd.R_ne HO130.out BK127.out (by decide))); have n4_ := Aside0.mk (hb); have n5_ := Aside0.mk (ho); clear HO_3 BK118 BK126 BK127 HB HO130; have HO_3 := n0_; have BK118 := n1_; have BK126 := n2_; have BK127 := n3_; have HB := n4_; have HO133 := n5_; clear n0_ n1_ n2_ n3_ n4_ n5_ ho hb hg hat; have hnb24 := NB126_118.out; have hnc24 := NB118_126.out; have hcz25_0 : w22.cell? ⟨gb126, 0, none⟩ = some (.int .u64 t121) := (blk_cell BK126.out 0).trans rfl; have hcz25_1 : w22.cell? ⟨gb126, 1, none⟩ = some (.int .u64 t122) := (blk_cell BK126.out 1).trans rfl; have hfz25_0 := blk_frozen BK126.out 0; have hfz25_1 := blk_frozen BK126.out 1; have hcv26 := own_string (P := Try.prog) Try.underlying40 Try.underlying5 Try.underlying9 (Kd.own_of_R HO133.out)))
     go_ret
     exact ⟨by first | rfl | (simp [errW_none, errW_some] <;> rfl) | (simp [*, errW_none, errW_some] <;> rfl), by repeat (first | (with_reducible first | exact HB.out | apply below_alloc | apply pw_below_drewN | apply below_drew1 | refine below_set ?_ GE118.out | refine below_set ?_ GE126.out | refine below_set ?_ GE127.out) | exact HB.out)⟩
    ·
     rw [if_neg c6] at H
     have c6b0 : (t121 == 0 && (t122 == 0)) = false := by simpa using c6
     (try (have c6b1 : decide (t121 = 0 && (t122 == 0)) = false := by simpa using c6))
     (try (have c6b2 : (t121 == 0 && (t122 == 0)) = false := by simpa using c6))
     (try (have c6b3 : ¬ (t121 = 0 && (t122 == 0)) := by simpa using c6))
     clear c6
     have H' := Aside0.mk H
     clear H
     try go_wp2
     have n0_ := Aside0.mk (Kd.R_drew HO_3.out)
     have n1_ := Aside0.mk (blk_drew BK118.out)
     have n2_ := Aside0.mk (below_drew1 HB.out)
     clear HO_3 BK118 HB
     have HO_3 := n0_
     have BK118 := n1_
     have HB := n2_
     clear n0_ n1_ n2_
     refine start_ (n := 12) (S := fun w' => w'.cell? ⟨gb118, 0, none⟩ = some (.int .u64 x119000_1) ∧ w'.cell? ⟨gb118, 1, none⟩ = some (.int .u64 x119001_1)) (ds := []) #[false, false, false, false, false, false, false, false, false, false, false, false] (by kernel_rfl) rfl rfl ⟨(blk_cell BK118.out 0).trans rfl, (blk_cell BK118.out 1).trans rfl⟩ (fun hHeld => ?_); refine with_tabW wide_Text.tab2 wide_Text.bits2 (fun HT_ HW_ => ?_)
     generalize wr.drew = w27 at HO_3 BK118 HB hHeld ⊢
     refine take_ (i := 0) (N := some 8) (v := ?_) (a' := ?_) #[true, false, false, false, false, false, false, false, false, false, false, false] rfl rfl (take_ofW HT_.out HW_.out (by kernel_rfl)) (fun _ _ _ h => h) (Or.inl ⟨by rfl, ?_⟩) hHeld ?_ ?_
     rotate_left
     ·
      rintro w' ⟨s0, s1⟩
      go_simp
      with_reducible rfl
     rotate_left
     ·
      simp only [Act.put, List.setIfInBounds_toArray, List.set_cons_zero, List.set_cons_succ, i64_w, i32_w]
      rfl
     refine join_ (σ := Nat × Nat) 3 #[true, true, true, true, true, true, true, true, true, false, false, false] (fun s_ => [(9, .agg #[.int .u64 t119, .int .u64 t120]), (10, .tuple #[.agg #[.int .u64 t121, .int .u64 t122], .agg #[.int .u64 t123, .int .u64 t124], .bool t125]), (4, .pointer (some ⟨s_.1, 0, none⟩)), (5, .pointer (some ⟨s_.2, 0, none⟩)), (7, .tuple #[.agg #[.int .u64 t121, .int .u64 t122], .agg #[.int .u64 t123, .int .u64 t124], .bool t125]), (11, .agg #[.int .u64 t121, .int .u64 t122]), (12, .agg #[.int .u64 t123, .int .u64 t124]), (13, .bool t125)]) (fun s_ w' => (w'.cell? ⟨gb118, 0, none⟩ = some (.int .u64 x119000_1) ∧ w'.cell? ⟨gb118, 1, none⟩ = some (.int .u64 x119001_1)) ∧ (Kd.R (Kd.int .u8) 5 w' w.heap.size (fun _ => True) u3 x3_1) ∧ (w'.heap[gb118]? = some (.cells #[.int .u64 x119000_1, .int .u64 x119001_1] 24 (0, 0))) ∧ (w'.heap[s_.1]? = some (.cells #[.int .u64 0, .int .u64 0] 24 (0, 0))) ∧ (w'.heap[s_.2]? = some (.cells #[.int .u64 0, .int .u64 0] 24 (0, 0))) ∧ (w.heap.size ≤ s_.1) ∧ (w.heap.size ≤ s_.1) ∧ (gb118 ≠ s_.1) ∧ (s_.1 ≠ gb118) ∧ (s_.2 ≠ s_.1) ∧ (s_.1 ≠ s_.2) ∧ (w.heap.size ≤ s_.2) ∧ (w.heap.size ≤ s_.2) ∧ (gb118 ≠ s_.2) ∧ (s_.2 ≠ gb118) ∧ (Below w.heap.size w w')) ?_ ?_
     rotate_left
     ·
      intro hJ1_2_7_8
      refine join_ (σ := Nat) 4 #[true, true, true, true, true, true, true, true, false, false, false, false] (fun s_ => [(9, .agg #[.int .u64 t119, .int .u64 t120]), (10, .tuple #[.agg #[.int .u64 t121, .int .u64 t122], .agg #[.int .u64 t123, .int .u64 t124], .bool t125]), (4, .pointer (some ⟨s_, 0, none⟩)), (7, .tuple #[.agg #[.int .u64 t121, .int .u64 t122], .agg #[.int .u64 t123, .int .u64 t124], .bool t125]), (11, .agg #[.int .u64 t121, .int .u64 t122]), (12, .agg #[.int .u64 t123, .int .u64 t124]), (13, .bool t125)]) (fun s_ w' => (w'.cell? ⟨gb118, 0, none⟩ = some (.int .u64 x119000_1) ∧ w'.cell? ⟨gb118, 1, none⟩ = some (.int .u64 x119001_1)) ∧ (Kd.R (Kd.int .u8) 5 w' w.heap.size (fun _ => True) u3 x3_1) ∧ (w'.heap[gb118]? = some (.cells #[.int .u64 x119000_1, .int .u64 x119001_1] 24 (0, 0))) ∧ (w'.heap[s_]? = some (.cells #[.int .u64 0, .int .u64 0] 24 (0, 0))) ∧ (w.heap.size ≤ s_) ∧ (w.heap.size ≤ s_) ∧ (gb118 ≠ s_) ∧ (s_ ≠ gb118) ∧ (Below w.heap.size w w')) ?_ ?_
      rotate_left
      ·
       intro hJ1_2_7
       refine join_ (σ := Nat) 4 #[true, true, true, true, true, true, true, false, true, false, false, false] (fun s_ => [(9, .agg #[.int .u64 t119, .int .u64 t120]), (10, .tuple #[.agg #[.int .u64 t121, .int .u64 t122], .agg #[.int .u64 t123, .int .u64 t124], .bool t125]), (5, .pointer (some ⟨s_, 0, none⟩)), (7, .tuple #[.agg #[.int .u64 t121, .int .u64 t122], .agg #[.int .u64 t123, .int .u64 t124], .bool t125]), (11, .agg #[.int .u64 t121, .int .u64 t122]), (12, .agg #[.int .u64 t123, .int .u64 t124]), (13, .bool t125)]) (fun s_ w' => (w'.cell? ⟨gb118, 0, none⟩ = some (.int .u64 x119000_1) ∧ w'.cell? ⟨gb118, 1, none⟩ = some (.int .u64 x119001_1)) ∧ (Kd.R (Kd.int .u8) 5 w' w.heap.size (fun _ => True) u3 x3_1) ∧ (w'.heap[gb118]? = some (.cells #[.int .u64 x119000_1, .int .u64 x119001_1] 24 (0, 0))) ∧ (w'.heap[s_]? = some (.cells #[.int .u64 0, .int .u64 0] 24 (0, 0))) ∧ (w.heap.size ≤ s_) ∧ (w.heap.size ≤ s_) ∧ (gb118 ≠ s_) ∧ (s_ ≠ gb118) ∧ (Below w.heap.size w w')) ?_ ?_
       rotate_left
       ·
        intro hJ1_2_8
        refine join_ (σ := Nat × Nat) 8 #[true, true, false, false, false, false, false, true, true, false, false, false] (fun s_ => [(9, .agg #[.int .u64 t119, .int .u64 t120]), (4, .pointer (some ⟨s_.1, 0, none⟩)), (5, .pointer (some ⟨s_.2, 0, none⟩))]) (fun s_ w' => (w'.cell? ⟨gb118, 0, none⟩ = some (.int .u64 x119000_1) ∧ w'.cell? ⟨gb118, 1, none⟩ = some (.int .u64 x119001_1)) ∧ (Kd.R (Kd.int .u8) 5 w' w.heap.size (fun _ => True) u3 x3_1) ∧ (w'.heap[gb118]? = some (.cells #[.int .u64 x119000_1, .int .u64 x119001_1] 24 (0, 0))) ∧ (w'.heap[s_.1]? = some (.cells #[.int .u64 0, .int .u64 0] 24 (0, 0))) ∧ (w'.heap[s_.2]? = some (.cells #[.int .u64 0, .int .u64 0] 24 (0, 0))) ∧ (w.heap.size ≤ s_.1) ∧ (w.heap.size ≤ s_.1) ∧ (gb118 ≠ s_.1) ∧ (s_.1 ≠ gb118) ∧ (s_.2 ≠ s_.1) ∧ (s_.1 ≠ s_.2) ∧ (w.heap.size ≤ s_.2) ∧ (w.heap.size ≤ s_.2) ∧ (gb118 ≠ s_.2) ∧ (s_.2 ≠ gb118) ∧ (Below w.heap.size w w')) ?_ ?_
        rotate_left
        ·
         intro hJ1_7_8
         refine join_ (σ := Unit) 5 #[true, true, true, true, true, true, true, false, false, false, false, false] (fun s_ => [(9, .agg #[.int .u64 t119, .int .u64 t120]), (10, .tuple #[.agg #[.int .u64 t121, .int .u64 t122], .agg #[.int .u64 t123, .int .u64 t124], .bool t125]), (7, .tuple #[.agg #[.int .u64 t121, .int .u64 t122], .agg #[.int .u64 t123, .int .u64 t124], .bool t125]), (11, .agg #[.int .u64 t121, .int .u64 t122]), (12, .agg #[.int .u64 t123, .int .u64 t124]), (13, .bool t125)]) (fun s_ w' => (w'.cell? ⟨gb118, 0, none⟩ = some (.int .u64 x119000_1) ∧ w'.cell? ⟨gb118, 1, none⟩ = some (.int .u64 x119001_1)) ∧ (Kd.R (Kd.int .u8) 5 w' w.heap.size (fun _ => True) u3 x3_1) ∧ (w'.heap[gb118]? = some (.cells #[.int .u64 x119000_1, .int .u64 x119001_1] 24 (0, 0))) ∧ (Below w.heap.size w w')) ?_ ?_
         rotate_left
         ·
          intro hJ1_2
          refine join_ (σ := Nat) 9 #[true, true, false, false, false, false, false, true, false, false, false, false] (fun s_ => [(9, .agg #[.int .u64 t119, .int .u64 t120]), (4, .pointer (some ⟨s_, 0, none⟩))]) (fun s_ w' => (w'.cell? ⟨gb118, 0, none⟩ = some (.int .u64 x119000_1) ∧ w'.cell? ⟨gb118, 1, none⟩ = some (.int .u64 x119001_1)) ∧ (Kd.R (Kd.int .u8) 5 w' w.heap.size (fun _ => True) u3 x3_1) ∧ (w'.heap[gb118]? = some (.cells #[.int .u64 x119000_1, .int .u64 x119001_1] 24 (0, 0))) ∧ (w'.heap[s_]? = some (.cells #[.int .u64 0, .int .u64 0] 24 (0, 0))) ∧ (w.heap.size ≤ s_) ∧ (w.heap.size ≤ s_) ∧ (gb118 ≠ s_) ∧ (s_ ≠ gb118) ∧ (Below w.heap.size w w')) ?_ ?_
          rotate_left
          ·
           intro hJ1_7
           refine join_ (σ := Nat) 9 #[true, true, false, false, false, false, false, false, true, false, false, false] (fun s_ => [(9, .agg #[.int .u64 t119, .int .u64 t120]), (5, .pointer (some ⟨s_, 0, none⟩))]) (fun s_ w' => (w'.cell? ⟨gb118, 0, none⟩ = some (.int .u64 x119000_1) ∧ w'.cell? ⟨gb118, 1, none⟩ = some (.int .u64 x119001_1)) ∧ (Kd.R (Kd.int .u8) 5 w' w.heap.size (fun _ => True) u3 x3_1) ∧ (w'.heap[gb118]? = some (.cells #[.int .u64 x119000_1, .int .u64 x119001_1] 24 (0, 0))) ∧ (w'.heap[s_]? = some (.cells #[.int .u64 0, .int .u64 0] 24 (0, 0))) ∧ (w.heap.size ≤ s_) ∧ (w.heap.size ≤ s_) ∧ (gb118 ≠ s_) ∧ (s_ ≠ gb118) ∧ (Below w.heap.size w w')) ?_ ?_
           rotate_left
           ·
            intro hJ1_8
            refine join_ (σ := Nat × Nat) 9 #[true, false, false, false, false, false, false, true, true, false, false, false] (fun s_ => [(4, .pointer (some ⟨s_.1, 0, none⟩)), (5, .pointer (some ⟨s_.2, 0, none⟩))]) (fun s_ w' => (w'.cell? ⟨gb118, 0, none⟩ = some (.int .u64 x119000_1) ∧ w'.cell? ⟨gb118, 1, none⟩ = some (.int .u64 x119001_1)) ∧ (Kd.R (Kd.int .u8) 5 w' w.heap.size (fun _ => True) u3 x3_1) ∧ (w'.heap[gb118]? = some (.cells #[.int .u64 x119000_1, .int .u64 x119001_1] 24 (0, 0))) ∧ (w'.heap[s_.1]? = some (.cells #[.int .u64 0, .int .u64 0] 24 (0, 0))) ∧ (w'.heap[s_.2]? = some (.cells #[.int .u64 0, .int .u64 0] 24 (0, 0))) ∧ (w.heap.size ≤ s_.1) ∧ (w.heap.size ≤ s_.1) ∧ (gb118 ≠ s_.1) ∧ (s_.1 ≠ gb118) ∧ (s_.2 ≠ s_.1) ∧ (s_.1 ≠ s_.2) ∧ (w.heap.size ≤ s_.2) ∧ (w.heap.size ≤ s_.2) ∧ (gb118 ≠ s_.2) ∧ (s_.2 ≠ gb118) ∧ (Below w.heap.size w w')) ?_ ?_
            rotate_left
            ·
             intro hJ7_8
             refine join_ (σ := Unit) 10 #[true, true, false, false, false, false, false, false, false, false, false, false] (fun s_ => [(9, .agg #[.int .u64 t119, .int .u64 t120])]) (fun s_ w' => (w'.cell? ⟨gb118, 0, none⟩ = some (.int .u64 x119000_1) ∧ w'.cell? ⟨gb118, 1, none⟩ = some (.int .u64 x119001_1)) ∧ (Kd.R (Kd.int .u8) 5 w' w.heap.size (fun _ => True) u3 x3_1) ∧ (w'.heap[gb118]? = some (.cells #[.int .u64 x119000_1, .int .u64 x119001_1] 24 (0, 0))) ∧ (Below w.heap.size w w')) ?_ ?_
             rotate_left
             ·
              intro hJ1
              refine join_ (σ := Nat) 10 #[true, false, false, false, false, false, false, true, false, false, false, false] (fun s_ => [(4, .pointer (some ⟨s_, 0, none⟩))]) (fun s_ w' => (w'.cell? ⟨gb118, 0, none⟩ = some (.int .u64 x119000_1) ∧ w'.cell? ⟨gb118, 1, none⟩ = some (.int .u64 x119001_1)) ∧ (Kd.R (Kd.int .u8) 5 w' w.heap.size (fun _ => True) u3 x3_1) ∧ (w'.heap[gb118]? = some (.cells #[.int .u64 x119000_1, .int .u64 x119001_1] 24 (0, 0))) ∧ (w'.heap[s_]? = some (.cells #[.int .u64 0, .int .u64 0] 24 (0, 0))) ∧ (w.heap.size ≤ s_) ∧ (w.heap.size ≤ s_) ∧ (gb118 ≠ s_) ∧ (s_ ≠ gb118) ∧ (Below w.heap.size w w')) ?_ ?_
              rotate_left
              ·
               intro hJ7
               refine join_ (σ := Nat) 10 #[true, false, false, false, false, false, false, false, true, false, false, false] (fun s_ => [(5, .pointer (some ⟨s_, 0, none⟩))]) (fun s_ w' => (w'.cell? ⟨gb118, 0, none⟩ = some (.int .u64 x119000_1) ∧ w'.cell? ⟨gb118, 1, none⟩ = some (.int .u64 x119001_1)) ∧ (Kd.R (Kd.int .u8) 5 w' w.heap.size (fun _ => True) u3 x3_1) ∧ (w'.heap[gb118]? = some (.cells #[.int .u64 x119000_1, .int .u64 x119001_1] 24 (0, 0))) ∧ (w'.heap[s_]? = some (.cells #[.int .u64 0, .int .u64 0] 24 (0, 0))) ∧ (w.heap.size ≤ s_) ∧ (w.heap.size ≤ s_) ∧ (gb118 ≠ s_) ∧ (s_ ≠ gb118) ∧ (Below w.heap.size w w')) ?_ ?_
               rotate_left
               ·
                intro hJ8
                refine three_ (i := 1) (j := 7) (k := 8) (Ni := some 9) (Nj := some 4) (Nk := some 5) #[true, true, false, false, false, false, false, false, false, false, false, false] #[true, false, false, false, false, false, false, true, false, false, false, false] #[true, false, false, false, false, false, false, false, true, false, false, false] rfl rfl rfl rfl rfl rfl (three_of HT_.out (by kernel_rfl)) (by decide) (by decide) (by decide) (fun K hK => ?_) (fun K hK => ?_) (fun K hK => ?_)
                ·
                 skip
                 refine goes_ Try.func18 (by kernel_rfl) rfl #[.int .u64 10] (by rfl) rfl rfl (by (try simp only [List.map_toArray, List.map_cons, List.map_nil]); first | done | rfl | (simp only [List.length_drop, List.length_take]; rfl)) ?_
                 with_reducible refine (wide_Of.calls 10 t119 t120 _ A3.out).mono ?_
                 rintro e w28 ⟨rfl, hb⟩
                 refine ⟨_, rfl, ?_⟩
                 have n0_ := Aside0.mk (Kd.R_below (by (with_reducible repeat (first | apply Kd.R_alloc | apply Kd.R_drewN | apply Kd.R_drew)); exact HO_3.out) hb)
                 have n1_ := Aside0.mk (blk_below (bT BK118.out) hb)
                 have n2_ := Aside0.mk (below_step (bW HB.out) hb)
                 clear HO_3 BK118 HB
                 have HO_3 := n0_
                 have BK118 := n1_
                 have HB := n2_
                 clear n0_ n1_ n2_
                 (try clear hb)
                 (try clear hb2)
                 (try clear hk)
                 (try clear hi)
                 refine hK.out _ _ ⟨(blk_cell BK118.out 0).trans rfl, (blk_cell BK118.out 1).trans rfl⟩ (fun hHeld => ?_)
                 clear hK K
                 refine norm_ (a' := ?_) ?_ ?_
                 rotate_left
                 ·
                  show Act.put _ (some 9) _ = _
                  simp only [Act.put, List.setIfInBounds_toArray, List.set_cons_zero, List.set_cons_succ, i64_w, i32_w]
                  rfl
                 exact norm_ (by first | (simp only [putAll, Act.put, List.setIfInBounds_toArray, List.set_cons_zero, List.set_cons_succ]; done) | (simp only [putAll, Act.put, List.setIfInBounds_toArray, List.set_cons_zero, List.set_cons_succ]; rfl)) (hJ1 () _ ⟨hHeld, (by (with_reducible repeat (first | apply Kd.R_alloc | apply Kd.R_drewN | apply Kd.R_drew)); exact HO_3.out), (bT BK118.out), (bW HB.out)⟩)
                ·
                 skip
                 refine box_step ?hg (N := 4) ?hd (cs := #[.int .u64 0, .int .u64 0]) (t := 24) ?hr ?_; (case hd => rfl); (case hg => rfl); (case hr => first | (go_simp; done) | (go_simp; rfl))
                 intro gb126 hg w28 hbox hb
                 have n0_ := Aside0.mk (Kd.R_below (by (with_reducible repeat (first | apply Kd.R_alloc | apply Kd.R_drewN | apply Kd.R_drew)); exact HO_3.out) hb)
                 have n1_ := Aside0.mk (blk_below (bT BK118.out) hb)
                 have n2_ := Aside0.mk (below_step (bW HB.out) hb)
                 have n3_ := Aside0.mk (hbox)
                 have n4_ := Aside0.mk ((by rw [hg]; exact (below_size (bW HB.out)) : w.heap.size ≤ gb126))
                 have n5_ := Aside0.mk ((by rw [hg]; exact (below_size (bW HB.out)) : w.heap.size ≤ gb126))
                 have n6_ := Aside0.mk ((by rw [hg]; exact Nat.ne_of_lt (blk_lt (bT BK118.out)) : gb118 ≠ gb126))
                 have n7_ := Aside0.mk ((by rw [hg]; exact Nat.ne_of_gt (blk_lt (bT BK118.out)) : gb126 ≠ gb118))
                 clear HO_3 BK118 HB
                 have HO_3 := n0_
                 have BK118 := n1_
                 have HB := n2_
                 have BK126 := n3_
                 have GW126 := n4_
                 have GE126 := n5_
                 have NB118_126 := n6_
                 have NB126_118 := n7_
                 clear n0_ n1_ n2_ n3_ n4_ n5_ n6_ n7_ hb hbox hg
                 refine hK.out _ _ ⟨(blk_cell BK118.out 0).trans rfl, (blk_cell BK118.out 1).trans rfl⟩ (fun hHeld => ?_)
                 clear hK K
                 refine norm_ (a' := ?_) ?_ ?_
                 rotate_left
                 ·
                  show Act.put _ (some 4) _ = _
                  simp only [Act.put, List.setIfInBounds_toArray, List.set_cons_zero, List.set_cons_succ, i64_w, i32_w]
                  rfl
                 exact norm_ (by first | (simp only [putAll, Act.put, List.setIfInBounds_toArray, List.set_cons_zero, List.set_cons_succ]; done) | (simp only [putAll, Act.put, List.setIfInBounds_toArray, List.set_cons_zero, List.set_cons_succ]; rfl)) (hJ7 (gb126) _ ⟨hHeld, (by (with_reducible repeat (first | apply Kd.R_alloc | apply Kd.R_drewN | apply Kd.R_drew)); exact HO_3.out), (bT BK118.out), (bT BK126.out), GW126.out, GE126.out, NB118_126.out, NB126_118.out, (bW HB.out)⟩)
                ·
                 skip
                 refine box_step ?hg (N := 5) ?hd (cs := #[.int .u64 0, .int .u64 0]) (t := 24) ?hr ?_; (case hd => rfl); (case hg => rfl); (case hr => first | (go_simp; done) | (go_simp; rfl))
                 intro gb127 hg w28 hbox hb
                 have n0_ := Aside0.mk (Kd.R_below (by (with_reducible repeat (first | apply Kd.R_alloc | apply Kd.R_drewN | apply Kd.R_drew)); exact HO_3.out) hb)
                 have n1_ := Aside0.mk (blk_below (bT BK118.out) hb)
                 have n2_ := Aside0.mk (below_step (bW HB.out) hb)
                 have n3_ := Aside0.mk (hbox)
                 have n4_ := Aside0.mk ((by rw [hg]; exact (below_size (bW HB.out)) : w.heap.size ≤ gb127))
                 have n5_ := Aside0.mk ((by rw [hg]; exact (below_size (bW HB.out)) : w.heap.size ≤ gb127))
                 have n6_ := Aside0.mk ((by rw [hg]; exact Nat.ne_of_lt (blk_lt (bT BK118.out)) : gb118 ≠ gb127))
                 have n7_ := Aside0.mk ((by rw [hg]; exact Nat.ne_of_gt (blk_lt (bT BK118.out)) : gb127 ≠ gb118))
                 clear HO_3 BK118 HB
                 have HO_3 := n0_
                 have BK118 := n1_
                 have HB := n2_
                 have BK127 := n3_
                 have GW127 := n4_
                 have GE127 := n5_
                 have NB118_127 := n6_
                 have NB127_118 := n7_
                 clear n0_ n1_ n2_ n3_ n4_ n5_ n6_ n7_ hb hbox hg
                 refine hK.out _ _ ⟨(blk_cell BK118.out 0).trans rfl, (blk_cell BK118.out 1).trans rfl⟩ (fun hHeld => ?_)
                 clear hK K
                 refine norm_ (a' := ?_) ?_ ?_
                 rotate_left
                 ·
                  show Act.put _ (some 5) _ = _
                  simp only [Act.put, List.setIfInBounds_toArray, List.set_cons_zero, List.set_cons_succ, i64_w, i32_w]
                  rfl
                 exact norm_ (by first | (simp only [putAll, Act.put, List.setIfInBounds_toArray, List.set_cons_zero, List.set_cons_succ]; done) | (simp only [putAll, Act.put, List.setIfInBounds_toArray, List.set_cons_zero, List.set_cons_succ]; rfl)) (hJ8 (gb127) _ ⟨hHeld, (by (with_reducible repeat (first | apply Kd.R_alloc | apply Kd.R_drewN | apply Kd.R_drew)); exact HO_3.out), (bT BK118.out), (bT BK127.out), GW127.out, GE127.out, NB118_127.out, NB127_118.out, (bW HB.out)⟩)
               ·
                skip
                rintro gb127 w29 ⟨hS_, h0_, h1_, h2_, h3_, h4_, h5_, h6_, h7_⟩
                have n0_ : Aside0 (Kd.R (Kd.int .u8) 5 w29 w.heap.size (fun _ => True) u3 x3_1) := ⟨h0_⟩
                have n1_ : Aside0 (w29.heap[gb118]? = some (.cells #[.int .u64 x119000_1, .int .u64 x119001_1] 24 (0, 0))) := ⟨h1_⟩
                have n2_ : Aside0 (w29.heap[gb127]? = some (.cells #[.int .u64 0, .int .u64 0] 24 (0, 0))) := ⟨h2_⟩
                have n3_ : Aside0 (w.heap.size ≤ gb127) := ⟨h3_⟩
                have n4_ : Aside0 (w.heap.size ≤ gb127) := ⟨h4_⟩
                have n5_ : Aside0 (gb118 ≠ gb127) := ⟨h5_⟩
                have n6_ : Aside0 (gb127 ≠ gb118) := ⟨h6_⟩
                have n7_ : Aside0 (Below w.heap.size w w29) := ⟨h7_⟩
                clear HO_3 BK118 HB h0_ h1_ h2_ h3_ h4_ h5_ h6_ h7_
                have HO_3 := n0_
                have BK118 := n1_
                have BK127 := n2_
                have GW127 := n3_
                have GE127 := n4_
                have NB118_127 := n5_
                have NB127_118 := n6_
                have HB := n7_
                clear n0_ n1_ n2_ n3_ n4_ n5_ n6_ n7_
                have hHeld : w29.cell? ⟨gb118, 0, none⟩ = some (.int .u64 x119000_1) ∧ w29.cell? ⟨gb118, 1, none⟩ = some (.int .u64 x119001_1) := hS_
                refine norm_ (a' := ?_) ?_ ?_
                rotate_left
                ·
                 simp only [putAll, Act.put, List.setIfInBounds_toArray, List.set_cons_zero, List.set_cons_succ]
                 rfl
                refine two_ (i := 1) (j := 7) (Ni := some 9) (Nj := some 4) #[true, true, false, false, false, false, false, false, true, false, false, false] #[true, false, false, false, false, false, false, true, true, false, false, false] rfl rfl rfl rfl (two_of HT_.out (by kernel_rfl)) (by decide) (by decide) (fun K hK => ?_) (fun K hK => ?_)
                ·
                 skip
                 refine goes_ Try.func18 (by kernel_rfl) rfl #[.int .u64 10] (by rfl) rfl rfl (by (try simp only [List.map_toArray, List.map_cons, List.map_nil]); first | done | rfl | (simp only [List.length_drop, List.length_take]; rfl)) ?_
                 with_reducible refine (wide_Of.calls 10 t119 t120 _ A3.out).mono ?_
                 rintro e w30 ⟨rfl, hb⟩
                 refine ⟨_, rfl, ?_⟩
                 have n0_ := Aside0.mk (Kd.R_below (by (with_reducible repeat (first | apply Kd.R_alloc | apply Kd.R_drewN | apply Kd.R_drew)); exact HO_3.out) hb)
                 have n1_ := Aside0.mk (blk_below (bT BK118.out) hb)
                 have n2_ := Aside0.mk (blk_below (bT BK127.out) hb)
                 have n3_ := Aside0.mk (below_step (bW HB.out) hb)
                 clear HO_3 BK118 BK127 HB
                 have HO_3 := n0_
                 have BK118 := n1_
                 have BK127 := n2_
                 have HB := n3_
                 clear n0_ n1_ n2_ n3_
                 (try clear hb)
                 (try clear hb2)
                 (try clear hk)
                 (try clear hi)
                 refine hK.out _ _ ⟨(blk_cell BK118.out 0).trans rfl, (blk_cell BK118.out 1).trans rfl⟩ (fun hHeld => ?_)
                 clear hK K
                 refine norm_ (a' := ?_) ?_ ?_
                 rotate_left
                 ·
                  show Act.put _ (some 9) _ = _
                  simp only [Act.put, List.setIfInBounds_toArray, List.set_cons_zero, List.set_cons_succ, i64_w, i32_w]
                  rfl
                 exact norm_ (by first | (simp only [putAll, Act.put, List.setIfInBounds_toArray, List.set_cons_zero, List.set_cons_succ]; done) | (simp only [putAll, Act.put, List.setIfInBounds_toArray, List.set_cons_zero, List.set_cons_succ]; rfl)) (hJ1_8 (gb127) _ ⟨hHeld, (by (with_reducible repeat (first | apply Kd.R_alloc | apply Kd.R_drewN | apply Kd.R_drew)); exact HO_3.out), (bT BK118.out), (bT BK127.out), GW127.out, GE127.out, NB118_127.out, NB127_118.out, (bW HB.out)⟩)
                ·
                 skip
                 refine box_step ?hg (N := 4) ?hd (cs := #[.int .u64 0, .int .u64 0]) (t := 24) ?hr ?_; (case hd => rfl); (case hg => rfl); (case hr => first | (go_simp; done) | (go_simp; rfl))
                 intro gb126 hg w30 hbox hb
                 have n0_ := Aside0.mk (Kd.R_below (by (with_reducible repeat (first | apply Kd.R_alloc | apply Kd.R_drewN | apply Kd.R_drew)); exact HO_3.out) hb)
                 have n1_ := Aside0.mk (blk_below (bT BK118.out) hb)
                 have n2_ := Aside0.mk (blk_below (bT BK127.out) hb)
                 have n3_ := Aside0.mk (below_step (bW HB.out) hb)
                 have n4_ := Aside0.mk (hbox)
                 have n5_ := Aside0.mk ((by rw [hg]; exact (below_size (bW HB.out)) : w.heap.size ≤ gb126))
                 have n6_ := Aside0.mk ((by rw [hg]; exact (below_size (bW HB.out)) : w.heap.size ≤ gb126))
                 have n7_ := Aside0.mk ((by rw [hg]; exact Nat.ne_of_lt (blk_lt (bT BK118.out)) : gb118 ≠ gb126))
                 have n8_ := Aside0.mk ((by rw [hg]; exact Nat.ne_of_gt (blk_lt (bT BK118.out)) : gb126 ≠ gb118))
                 have n9_ := Aside0.mk ((by rw [hg]; exact Nat.ne_of_lt (blk_lt (bT BK127.out)) : gb127 ≠ gb126))
                 have n10_ := Aside0.mk ((by rw [hg]; exact Nat.ne_of_gt (blk_lt (bT BK127.out)) : gb126 ≠ gb127))
                 clear HO_3 BK118 BK127 HB
                 have HO_3 := n0_
                 have BK118 := n1_
                 have BK127 := n2_
                 have HB := n3_
                 have BK126 := n4_
                 have GW126 := n5_
                 have GE126 := n6_
                 have NB118_126 := n7_
                 have NB126_118 := n8_
                 have NB127_126 := n9_
                 have NB126_127 := n10_
                 clear n0_ n1_ n2_ n3_ n4_ n5_ n6_ n7_ n8_ n9_ n10_ hb hbox hg
                 refine hK.out _ _ ⟨(blk_cell BK118.out 0).trans rfl, (blk_cell BK118.out 1).trans rfl⟩ (fun hHeld => ?_)
                 clear hK K
                 refine norm_ (a' := ?_) ?_ ?_
                 rotate_left
                 ·
                  show Act.put _ (some 4) _ = _
                  simp only [Act.put, List.setIfInBounds_toArray, List.set_cons_zero, List.set_cons_succ, i64_w, i32_w]
                  rfl
                 exact norm_ (by first | (simp only [putAll, Act.put, List.setIfInBounds_toArray, List.set_cons_zero, List.set_cons_succ]; done) | (simp only [putAll, Act.put, List.setIfInBounds_toArray, List.set_cons_zero, List.set_cons_succ]; rfl)) (hJ7_8 (gb126, gb127) _ ⟨hHeld, (by (with_reducible repeat (first | apply Kd.R_alloc | apply Kd.R_drewN | apply Kd.R_drew)); exact HO_3.out), (bT BK118.out), (bT BK126.out), (bT BK127.out), GW126.out, GE126.out, NB118_126.out, NB126_118.out, NB127_126.out, NB126_127.out, GW127.out, GE127.out, NB118_127.out, NB127_118.out, (bW HB.out)⟩)
              ·
               skip
               rintro gb126 w29 ⟨hS_, h0_, h1_, h2_, h3_, h4_, h5_, h6_, h7_⟩
               have n0_ : Aside0 (Kd.R (Kd.int .u8) 5 w29 w.heap.size (fun _ => True) u3 x3_1) := ⟨h0_⟩
               have n1_ : Aside0 (w29.heap[gb118]? = some (.cells #[.int .u64 x119000_1, .int .u64 x119001_1] 24 (0, 0))) := ⟨h1_⟩
               have n2_ : Aside0 (w29.heap[gb126]? = some (.cells #[.int .u64 0, .int .u64 0] 24 (0, 0))) := ⟨h2_⟩
               have n3_ : Aside0 (w.heap.size ≤ gb126) := ⟨h3_⟩
               have n4_ : Aside0 (w.heap.size ≤ gb126) := ⟨h4_⟩
               have n5_ : Aside0 (gb118 ≠ gb126) := ⟨h5_⟩
               have n6_ : Aside0 (gb126 ≠ gb118) := ⟨h6_⟩
               have n7_ : Aside0 (Below w.heap.size w w29) := ⟨h7_⟩
               clear HO_3 BK118 HB h0_ h1_ h2_ h3_ h4_ h5_ h6_ h7_
               have HO_3 := n0_
               have BK118 := n1_
               have BK126 := n2_
               have GW126 := n3_
               have GE126 := n4_
               have NB118_126 := n5_
               have NB126_118 := n6_
               have HB := n7_
               clear n0_ n1_ n2_ n3_ n4_ n5_ n6_ n7_
               have hHeld : w29.cell? ⟨gb118, 0, none⟩ = some (.int .u64 x119000_1) ∧ w29.cell? ⟨gb118, 1, none⟩ = some (.int .u64 x119001_1) := hS_
               refine norm_ (a' := ?_) ?_ ?_
               rotate_left
               ·
                simp only [putAll, Act.put, List.setIfInBounds_toArray, List.set_cons_zero, List.set_cons_succ]
                rfl
               refine two_ (i := 1) (j := 8) (Ni := some 9) (Nj := some 5) #[true, true, false, false, false, false, false, true, false, false, false, false] #[true, false, false, false, false, false, false, true, true, false, false, false] rfl rfl rfl rfl (two_of HT_.out (by kernel_rfl)) (by decide) (by decide) (fun K hK => ?_) (fun K hK => ?_)
               ·
                skip
                refine goes_ Try.func18 (by kernel_rfl) rfl #[.int .u64 10] (by rfl) rfl rfl (by (try simp only [List.map_toArray, List.map_cons, List.map_nil]); first | done | rfl | (simp only [List.length_drop, List.length_take]; rfl)) ?_
                with_reducible refine (wide_Of.calls 10 t119 t120 _ A3.out).mono ?_
                rintro e w30 ⟨rfl, hb⟩
                refine ⟨_, rfl, ?_⟩
                have n0_ := Aside0.mk (Kd.R_below (by (with_reducible repeat (first | apply Kd.R_alloc | apply Kd.R_drewN | apply Kd.R_drew)); exact HO_3.out) hb)
                have n1_ := Aside0.mk (blk_below (bT BK118.out) hb)
                have n2_ := Aside0.mk (blk_below (bT BK126.out) hb)
                have n3_ := Aside0.mk (below_step (bW HB.out) hb)
                clear HO_3 BK118 BK126 HB
                have HO_3 := n0_
                have BK118 := n1_
                have BK126 := n2_
                have HB := n3_
                clear n0_ n1_ n2_ n3_
                (try clear hb)
                (try clear hb2)
                (try clear hk)
                (try clear hi)
                refine hK.out _ _ ⟨(blk_cell BK118.out 0).trans rfl, (blk_cell BK118.out 1).trans rfl⟩ (fun hHeld => ?_)
                clear hK K
                refine norm_ (a' := ?_) ?_ ?_
                rotate_left
                ·
                 show Act.put _ (some 9) _ = _
                 simp only [Act.put, List.setIfInBounds_toArray, List.set_cons_zero, List.set_cons_succ, i64_w, i32_w]
                 rfl
                exact norm_ (by first | (simp only [putAll, Act.put, List.setIfInBounds_toArray, List.set_cons_zero, List.set_cons_succ]; done) | (simp only [putAll, Act.put, List.setIfInBounds_toArray, List.set_cons_zero, List.set_cons_succ]; rfl)) (hJ1_7 (gb126) _ ⟨hHeld, (by (with_reducible repeat (first | apply Kd.R_alloc | apply Kd.R_drewN | apply Kd.R_drew)); exact HO_3.out), (bT BK118.out), (bT BK126.out), GW126.out, GE126.out, NB118_126.out, NB126_118.out, (bW HB.out)⟩)
               ·
                skip
                refine box_step ?hg (N := 5) ?hd (cs := #[.int .u64 0, .int .u64 0]) (t := 24) ?hr ?_; (case hd => rfl); (case hg => rfl); (case hr => first | (go_simp; done) | (go_simp; rfl))
                intro gb127 hg w30 hbox hb
                have n0_ := Aside0.mk (Kd.R_below (by (with_reducible repeat (first | apply Kd.R_alloc | apply Kd.R_drewN | apply Kd.R_drew)); exact HO_3.out) hb)
                have n1_ := Aside0.mk (blk_below (bT BK118.out) hb)
                have n2_ := Aside0.mk (blk_below (bT BK126.out) hb)
                have n3_ := Aside0.mk (below_step (bW HB.out) hb)
                have n4_ := Aside0.mk (hbox)
                have n5_ := Aside0.mk ((by rw [hg]; exact (below_size (bW HB.out)) : w.heap.size ≤ gb127))
                have n6_ := Aside0.mk ((by rw [hg]; exact (below_size (bW HB.out)) : w.heap.size ≤ gb127))
                have n7_ := Aside0.mk ((by rw [hg]; exact Nat.ne_of_lt (blk_lt (bT BK118.out)) : gb118 ≠ gb127))
                have n8_ := Aside0.mk ((by rw [hg]; exact Nat.ne_of_gt (blk_lt (bT BK118.out)) : gb127 ≠ gb118))
                have n9_ := Aside0.mk ((by rw [hg]; exact Nat.ne_of_lt (blk_lt (bT BK126.out)) : gb126 ≠ gb127))
                have n10_ := Aside0.mk ((by rw [hg]; exact Nat.ne_of_gt (blk_lt (bT BK126.out)) : gb127 ≠ gb126))
                clear HO_3 BK118 BK126 HB
                have HO_3 := n0_
                have BK118 := n1_
                have BK126 := n2_
                have HB := n3_
                have BK127 := n4_
                have GW127 := n5_
                have GE127 := n6_
                have NB118_127 := n7_
                have NB127_118 := n8_
                have NB126_127 := n9_
                have NB127_126 := n10_
                clear n0_ n1_ n2_ n3_ n4_ n5_ n6_ n7_ n8_ n9_ n10_ hb hbox hg
                refine hK.out _ _ ⟨(blk_cell BK118.out 0).trans rfl, (blk_cell BK118.out 1).trans rfl⟩ (fun hHeld => ?_)
                clear hK K
                refine norm_ (a' := ?_) ?_ ?_
                rotate_left
                ·
                 show Act.put _ (some 5) _ = _
                 simp only [Act.put, List.setIfInBounds_toArray, List.set_cons_zero, List.set_cons_succ, i64_w, i32_w]
                 rfl
                exact norm_ (by first | (simp only [putAll, Act.put, List.setIfInBounds_toArray, List.set_cons_zero, List.set_cons_succ]; done) | (simp only [putAll, Act.put, List.setIfInBounds_toArray, List.set_cons_zero, List.set_cons_succ]; rfl)) (hJ7_8 (gb126, gb127) _ ⟨hHeld, (by (with_reducible repeat (first | apply Kd.R_alloc | apply Kd.R_drewN | apply Kd.R_drew)); exact HO_3.out), (bT BK118.out), (bT BK126.out), (bT BK127.out), GW126.out, GE126.out, NB118_126.out, NB126_118.out, NB127_126.out, NB126_127.out, GW127.out, GE127.out, NB118_127.out, NB127_118.out, (bW HB.out)⟩)
             ·
              skip
              rintro _ w29 ⟨hS_, h0_, h1_, h2_⟩
              have n0_ : Aside0 (Kd.R (Kd.int .u8) 5 w29 w.heap.size (fun _ => True) u3 x3_1) := ⟨h0_⟩
              have n1_ : Aside0 (w29.heap[gb118]? = some (.cells #[.int .u64 x119000_1, .int .u64 x119001_1] 24 (0, 0))) := ⟨h1_⟩
              have n2_ : Aside0 (Below w.heap.size w w29) := ⟨h2_⟩
              clear HO_3 BK118 HB h0_ h1_ h2_
              have HO_3 := n0_
              have BK118 := n1_
              have HB := n2_
              clear n0_ n1_ n2_
              have hHeld : w29.cell? ⟨gb118, 0, none⟩ = some (.int .u64 x119000_1) ∧ w29.cell? ⟨gb118, 1, none⟩ = some (.int .u64 x119001_1) := hS_
              refine norm_ (a' := ?_) ?_ ?_
              rotate_left
              ·
               simp only [putAll, Act.put, List.setIfInBounds_toArray, List.set_cons_zero, List.set_cons_succ]
               rfl
              refine three_ (i := 2) (j := 7) (k := 8) (Ni := some 10) (Nj := some 4) (Nk := some 5) #[true, true, true, false, false, false, false, false, false, false, false, false] #[true, true, false, false, false, false, false, true, false, false, false, false] #[true, true, false, false, false, false, false, false, true, false, false, false] rfl rfl rfl rfl rfl rfl (three_of HT_.out (by kernel_rfl)) (by decide) (by decide) (by decide) (fun K hK => ?_) (fun K hK => ?_) (fun K hK => ?_)
              ·
               skip
               refine goes_ Try.func20 (by kernel_rfl) rfl #[.agg #[.int .u64 x119000_1, .int .u64 x119001_1], .agg #[.int .u64 t119, .int .u64 t120]] (by rfl) rfl rfl (by (try simp only [List.map_toArray, List.map_cons, List.map_nil]); first | done | rfl | (simp only [List.length_drop, List.length_take]; rfl)) ?_
               with_reducible refine (wide_Div.calls x119000_1 x119001_1 t119 t120 t121 t122 t123 t124 t125 _ A4.out).mono ?_
               rintro e w30 ⟨rfl, hb⟩
               refine ⟨_, rfl, ?_⟩
               have n0_ := Aside0.mk (Kd.R_below (by (with_reducible repeat (first | apply Kd.R_alloc | apply Kd.R_drewN | apply Kd.R_drew)); exact HO_3.out) hb)
               have n1_ := Aside0.mk (blk_below (bT BK118.out) hb)
               have n2_ := Aside0.mk (below_step (bW HB.out) hb)
               clear HO_3 BK118 HB
               have HO_3 := n0_
               have BK118 := n1_
               have HB := n2_
               clear n0_ n1_ n2_
               (try clear hb)
               (try clear hb2)
               (try clear hk)
               (try clear hi)
               refine hK.out _ _ ⟨(blk_cell BK118.out 0).trans rfl, (blk_cell BK118.out 1).trans rfl⟩ (fun hHeld => ?_)
               clear hK K
               refine norm_ (a' := ?_) ?_ ?_
               rotate_left
               ·
                show Act.put _ (some 10) _ = _
                simp only [Act.put, List.setIfInBounds_toArray, List.set_cons_zero, List.set_cons_succ, i64_w, i32_w]
                rfl
               refine pure_ (i := 3) (N := some 7) (v := ?_) (a' := ?_) #[true, true, true, true, false, false, false, false, false, false, false, false] rfl rfl (any_of HT_.out (by kernel_rfl)) (fun _ _ _ h => h) (Or.inl ⟨by rfl, ?_⟩) ?_ ?_
               rotate_left
               ·
                intro w'
                go_simp
                with_reducible rfl
               rotate_left
               ·
                simp only [Act.put, List.setIfInBounds_toArray, List.set_cons_zero, List.set_cons_succ, i64_w, i32_w]
                rfl
               refine pure_ (i := 4) (N := some 11) (v := ?_) (a' := ?_) #[true, true, true, true, true, false, false, false, false, false, false, false] rfl rfl (any_of HT_.out (by kernel_rfl)) (fun _ _ _ h => h) (Or.inl ⟨by rfl, ?_⟩) ?_ ?_
               rotate_left
               ·
                intro w'
                go_simp
                with_reducible rfl
               rotate_left
               ·
                simp only [Act.put, List.setIfInBounds_toArray, List.set_cons_zero, List.set_cons_succ, i64_w, i32_w]
                rfl
               refine pure_ (i := 5) (N := some 12) (v := ?_) (a' := ?_) #[true, true, true, true, true, true, false, false, false, false, false, false] rfl rfl (any_of HT_.out (by kernel_rfl)) (fun _ _ _ h => h) (Or.inl ⟨by rfl, ?_⟩) ?_ ?_
               rotate_left
               ·
                intro w'
                go_simp
                with_reducible rfl
               rotate_left
               ·
                simp only [Act.put, List.setIfInBounds_toArray, List.set_cons_zero, List.set_cons_succ, i64_w, i32_w]
                rfl
               refine pure_ (i := 6) (N := some 13) (v := ?_) (a' := ?_) #[true, true, true, true, true, true, true, false, false, false, false, false] rfl rfl (any_of HT_.out (by kernel_rfl)) (fun _ _ _ h => h) (Or.inl ⟨by rfl, ?_⟩) ?_ ?_
               rotate_left
               ·
                intro w'
                go_simp
                with_reducible rfl
               rotate_left
               ·
                simp only [Act.put, List.setIfInBounds_toArray, List.set_cons_zero, List.set_cons_succ, i64_w, i32_w]
                rfl
               exact norm_ (by first | (simp only [putAll, Act.put, List.setIfInBounds_toArray, List.set_cons_zero, List.set_cons_succ]; done) | (simp only [putAll, Act.put, List.setIfInBounds_toArray, List.set_cons_zero, List.set_cons_succ]; rfl)) (hJ1_2 () _ ⟨hHeld, (by (with_reducible repeat (first | apply Kd.R_alloc | apply Kd.R_drewN | apply Kd.R_drew)); exact HO_3.out), (bT BK118.out), (bW HB.out)⟩)
              ·
               skip
               refine box_step ?hg (N := 4) ?hd (cs := #[.int .u64 0, .int .u64 0]) (t := 24) ?hr ?_; (case hd => rfl); (case hg => rfl); (case hr => first | (go_simp; done) | (go_simp; rfl))
               intro gb126 hg w30 hbox hb
               have n0_ := Aside0.mk (Kd.R_below (by (with_reducible repeat (first | apply Kd.R_alloc | apply Kd.R_drewN | apply Kd.R_drew)); exact HO_3.out) hb)
               have n1_ := Aside0.mk (blk_below (bT BK118.out) hb)
               have n2_ := Aside0.mk (below_step (bW HB.out) hb)
               have n3_ := Aside0.mk (hbox)
               have n4_ := Aside0.mk ((by rw [hg]; exact (below_size (bW HB.out)) : w.heap.size ≤ gb126))
               have n5_ := Aside0.mk ((by rw [hg]; exact (below_size (bW HB.out)) : w.heap.size ≤ gb126))
               have n6_ := Aside0.mk ((by rw [hg]; exact Nat.ne_of_lt (blk_lt (bT BK118.out)) : gb118 ≠ gb126))
               have n7_ := Aside0.mk ((by rw [hg]; exact Nat.ne_of_gt (blk_lt (bT BK118.out)) : gb126 ≠ gb118))
               clear HO_3 BK118 HB
               have HO_3 := n0_
               have BK118 := n1_
               have HB := n2_
               have BK126 := n3_
               have GW126 := n4_
               have GE126 := n5_
               have NB118_126 := n6_
               have NB126_118 := n7_
               clear n0_ n1_ n2_ n3_ n4_ n5_ n6_ n7_ hb hbox hg
               refine hK.out _ _ ⟨(blk_cell BK118.out 0).trans rfl, (blk_cell BK118.out 1).trans rfl⟩ (fun hHeld => ?_)
               clear hK K
               refine norm_ (a' := ?_) ?_ ?_
               rotate_left
               ·
                show Act.put _ (some 4) _ = _
                simp only [Act.put, List.setIfInBounds_toArray, List.set_cons_zero, List.set_cons_succ, i64_w, i32_w]
                rfl
               exact norm_ (by first | (simp only [putAll, Act.put, List.setIfInBounds_toArray, List.set_cons_zero, List.set_cons_succ]; done) | (simp only [putAll, Act.put, List.setIfInBounds_toArray, List.set_cons_zero, List.set_cons_succ]; rfl)) (hJ1_7 (gb126) _ ⟨hHeld, (by (with_reducible repeat (first | apply Kd.R_alloc | apply Kd.R_drewN | apply Kd.R_drew)); exact HO_3.out), (bT BK118.out), (bT BK126.out), GW126.out, GE126.out, NB118_126.out, NB126_118.out, (bW HB.out)⟩)
              ·
               skip
               refine box_step ?hg (N := 5) ?hd (cs := #[.int .u64 0, .int .u64 0]) (t := 24) ?hr ?_; (case hd => rfl); (case hg => rfl); (case hr => first | (go_simp; done) | (go_simp; rfl))
               intro gb127 hg w30 hbox hb
               have n0_ := Aside0.mk (Kd.R_below (by (with_reducible repeat (first | apply Kd.R_alloc | apply Kd.R_drewN | apply Kd.R_drew)); exact HO_3.out) hb)
               have n1_ := Aside0.mk (blk_below (bT BK118.out) hb)
               have n2_ := Aside0.mk (below_step (bW HB.out) hb)
               have n3_ := Aside0.mk (hbox)
               have n4_ := Aside0.mk ((by rw [hg]; exact (below_size (bW HB.out)) : w.heap.size ≤ gb127))
               have n5_ := Aside0.mk ((by rw [hg]; exact (below_size (bW HB.out)) : w.heap.size ≤ gb127))
               have n6_ := Aside0.mk ((by rw [hg]; exact Nat.ne_of_lt (blk_lt (bT BK118.out)) : gb118 ≠ gb127))
               have n7_ := Aside0.mk ((by rw [hg]; exact Nat.ne_of_gt (blk_lt (bT BK118.out)) : gb127 ≠ gb118))
               clear HO_3 BK118 HB
               have HO_3 := n0_
               have BK118 := n1_
               have HB := n2_
               have BK127 := n3_
               have GW127 := n4_
               have GE127 := n5_
               have NB118_127 := n6_
               have NB127_118 := n7_
               clear n0_ n1_ n2_ n3_ n4_ n5_ n6_ n7_ hb hbox hg
               refine hK.out _ _ ⟨(blk_cell BK118.out 0).trans rfl, (blk_cell BK118.out 1).trans rfl⟩ (fun hHeld => ?_)
               clear hK K
               refine norm_ (a' := ?_) ?_ ?_
               rotate_left
               ·
                show Act.put _ (some 5) _ = _
                simp only [Act.put, List.setIfInBounds_toArray, List.set_cons_zero, List.set_cons_succ, i64_w, i32_w]
                rfl
               exact norm_ (by first | (simp only [putAll, Act.put, List.setIfInBounds_toArray, List.set_cons_zero, List.set_cons_succ]; done) | (simp only [putAll, Act.put, List.setIfInBounds_toArray, List.set_cons_zero, List.set_cons_succ]; rfl)) (hJ1_8 (gb127) _ ⟨hHeld, (by (with_reducible repeat (first | apply Kd.R_alloc | apply Kd.R_drewN | apply Kd.R_drew)); exact HO_3.out), (bT BK118.out), (bT BK127.out), GW127.out, GE127.out, NB118_127.out, NB127_118.out, (bW HB.out)⟩)
            ·
             skip
             rintro ⟨gb126, gb127⟩ w30 ⟨hS_, h0_, h1_, h2_, h3_, h4_, h5_, h6_, h7_, h8_, h9_, h10_, h11_, h12_, h13_, h14_⟩
             have n0_ : Aside0 (Kd.R (Kd.int .u8) 5 w30 w.heap.size (fun _ => True) u3 x3_1) := ⟨h0_⟩
             have n1_ : Aside0 (w30.heap[gb118]? = some (.cells #[.int .u64 x119000_1, .int .u64 x119001_1] 24 (0, 0))) := ⟨h1_⟩
             have n2_ : Aside0 (w30.heap[gb126]? = some (.cells #[.int .u64 0, .int .u64 0] 24 (0, 0))) := ⟨h2_⟩
             have n3_ : Aside0 (w30.heap[gb127]? = some (.cells #[.int .u64 0, .int .u64 0] 24 (0, 0))) := ⟨h3_⟩
             have n4_ : Aside0 (w.heap.size ≤ gb126) := ⟨h4_⟩
             have n5_ : Aside0 (w.heap.size ≤ gb126) := ⟨h5_⟩
             have n6_ : Aside0 (gb118 ≠ gb126) := ⟨h6_⟩
             have n7_ : Aside0 (gb126 ≠ gb118) := ⟨h7_⟩
             have n8_ : Aside0 (gb127 ≠ gb126) := ⟨h8_⟩
             have n9_ : Aside0 (gb126 ≠ gb127) := ⟨h9_⟩
             have n10_ : Aside0 (w.heap.size ≤ gb127) := ⟨h10_⟩
             have n11_ : Aside0 (w.heap.size ≤ gb127) := ⟨h11_⟩
             have n12_ : Aside0 (gb118 ≠ gb127) := ⟨h12_⟩
             have n13_ : Aside0 (gb127 ≠ gb118) := ⟨h13_⟩
             have n14_ : Aside0 (Below w.heap.size w w30) := ⟨h14_⟩
             clear HO_3 BK118 HB h0_ h1_ h2_ h3_ h4_ h5_ h6_ h7_ h8_ h9_ h10_ h11_ h12_ h13_ h14_
             have HO_3 := n0_
             have BK118 := n1_
             have BK126 := n2_
             have BK127 := n3_
             have GW126 := n4_
             have GE126 := n5_
             have NB118_126 := n6_
             have NB126_118 := n7_
             have NB127_126 := n8_
             have NB126_127 := n9_
             have GW127 := n10_
             have GE127 := n11_
             have NB118_127 := n12_
             have NB127_118 := n13_
             have HB := n14_
             clear n0_ n1_ n2_ n3_ n4_ n5_ n6_ n7_ n8_ n9_ n10_ n11_ n12_ n13_ n14_
             have hHeld : w30.cell? ⟨gb118, 0, none⟩ = some (.int .u64 x119000_1) ∧ w30.cell? ⟨gb118, 1, none⟩ = some (.int .u64 x119001_1) := hS_
             refine norm_ (a' := ?_) ?_ ?_
             rotate_left
             ·
              simp only [putAll, Act.put, List.setIfInBounds_toArray, List.set_cons_zero, List.set_cons_succ]
              rfl
             refine one_ (i := 1) (N := some 9) #[true, true, false, false, false, false, false, true, true, false, false, false] rfl rfl (one_of HT_.out (by kernel_rfl)) (by decide) (fun K hK => ?_)
             refine goes_ Try.func18 (by kernel_rfl) rfl #[.int .u64 10] (by rfl) rfl rfl (by (try simp only [List.map_toArray, List.map_cons, List.map_nil]); first | done | rfl | (simp only [List.length_drop, List.length_take]; rfl)) ?_
             with_reducible refine (wide_Of.calls 10 t119 t120 _ A3.out).mono ?_
             rintro e w31 ⟨rfl, hb⟩
             refine ⟨_, rfl, ?_⟩
             have n0_ := Aside0.mk (Kd.R_below (by (with_reducible repeat (first | apply Kd.R_alloc | apply Kd.R_drewN | apply Kd.R_drew)); exact HO_3.out) hb)
             have n1_ := Aside0.mk (blk_below (bT BK118.out) hb)
             have n2_ := Aside0.mk (blk_below (bT BK126.out) hb)
             have n3_ := Aside0.mk (blk_below (bT BK127.out) hb)
             have n4_ := Aside0.mk (below_step (bW HB.out) hb)
             clear HO_3 BK118 BK126 BK127 HB
             have HO_3 := n0_
             have BK118 := n1_
             have BK126 := n2_
             have BK127 := n3_
             have HB := n4_
             clear n0_ n1_ n2_ n3_ n4_
             (try clear hb)
             (try clear hb2)
             (try clear hk)
             (try clear hi)
             refine hK.out _ _ ⟨(blk_cell BK118.out 0).trans rfl, (blk_cell BK118.out 1).trans rfl⟩ (fun hHeld => ?_)
             clear hK K
             refine norm_ (a' := ?_) ?_ ?_
             rotate_left
             ·
              show Act.put _ (some 9) _ = _
              simp only [Act.put, List.setIfInBounds_toArray, List.set_cons_zero, List.set_cons_succ, i64_w, i32_w]
              rfl
             exact norm_ (by first | (simp only [putAll, Act.put, List.setIfInBounds_toArray, List.set_cons_zero, List.set_cons_succ]; done) | (simp only [putAll, Act.put, List.setIfInBounds_toArray, List.set_cons_zero, List.set_cons_succ]; rfl)) (hJ1_7_8 (gb126, gb127) _ ⟨hHeld, (by (with_reducible repeat (first | apply Kd.R_alloc | apply Kd.R_drewN | apply Kd.R_drew)); exact HO_3.out), (bT BK118.out), (bT BK126.out), (bT BK127.out), GW126.out, GE126.out, NB118_126.out, NB126_118.out, NB127_126.out, NB126_127.out, GW127.out, GE127.out, NB118_127.out, NB127_118.out, (bW HB.out)⟩)
           ·
            skip
            rintro gb127 w30 ⟨hS_, h0_, h1_, h2_, h3_, h4_, h5_, h6_, h7_⟩
            have n0_ : Aside0 (Kd.R (Kd.int .u8) 5 w30 w.heap.size (fun _ => True) u3 x3_1) := ⟨h0_⟩
            have n1_ : Aside0 (w30.heap[gb118]? = some (.cells #[.int .u64 x119000_1, .int .u64 x119001_1] 24 (0, 0))) := ⟨h1_⟩
            have n2_ : Aside0 (w30.heap[gb127]? = some (.cells #[.int .u64 0, .int .u64 0] 24 (0, 0))) := ⟨h2_⟩
            have n3_ : Aside0 (w.heap.size ≤ gb127) := ⟨h3_⟩
            have n4_ : Aside0 (w.heap.size ≤ gb127) := ⟨h4_⟩
            have n5_ : Aside0 (gb118 ≠ gb127) := ⟨h5_⟩
            have n6_ : Aside0 (gb127 ≠ gb118) := ⟨h6_⟩
            have n7_ : Aside0 (Below w.heap.size w w30) := ⟨h7_⟩
            clear HO_3 BK118 HB h0_ h1_ h2_ h3_ h4_ h5_ h6_ h7_
            have HO_3 := n0_
            have BK118 := n1_
            have BK127 := n2_
            have GW127 := n3_
            have GE127 := n4_
            have NB118_127 := n5_
            have NB127_118 := n6_
            have HB := n7_
            clear n0_ n1_ n2_ n3_ n4_ n5_ n6_ n7_
            have hHeld : w30.cell? ⟨gb118, 0, none⟩ = some (.int .u64 x119000_1) ∧ w30.cell? ⟨gb118, 1, none⟩ = some (.int .u64 x119001_1) := hS_
            refine norm_ (a' := ?_) ?_ ?_
            rotate_left
            ·
             simp only [putAll, Act.put, List.setIfInBounds_toArray, List.set_cons_zero, List.set_cons_succ]
             rfl
            refine two_ (i := 2) (j := 7) (Ni := some 10) (Nj := some 4) #[true, true, true, false, false, false, false, false, true, false, false, false] #[true, true, false, false, false, false, false, true, true, false, false, false] rfl rfl rfl rfl (two_of HT_.out (by kernel_rfl)) (by decide) (by decide) (fun K hK => ?_) (fun K hK => ?_)
            ·
             skip
             refine goes_ Try.func20 (by kernel_rfl) rfl #[.agg #[.int .u64 x119000_1, .int .u64 x119001_1], .agg #[.int .u64 t119, .int .u64 t120]] (by rfl) rfl rfl (by (try simp only [List.map_toArray, List.map_cons, List.map_nil]); first | done | rfl | (simp only [List.length_drop, List.length_take]; rfl)) ?_
             with_reducible refine (wide_Div.calls x119000_1 x119001_1 t119 t120 t121 t122 t123 t124 t125 _ A4.out).mono ?_
             rintro e w31 ⟨rfl, hb⟩
             refine ⟨_, rfl, ?_⟩
             have n0_ := Aside0.mk (Kd.R_below (by (with_reducible repeat (first | apply Kd.R_alloc | apply Kd.R_drewN | apply Kd.R_drew)); exact HO_3.out) hb)
             have n1_ := Aside0.mk (blk_below (bT BK118.out) hb)
             have n2_ := Aside0.mk (blk_below (bT BK127.out) hb)
             have n3_ := Aside0.mk (below_step (bW HB.out) hb)
             clear HO_3 BK118 BK127 HB
             have HO_3 := n0_
             have BK118 := n1_
             have BK127 := n2_
             have HB := n3_
             clear n0_ n1_ n2_ n3_
             (try clear hb)
             (try clear hb2)
             (try clear hk)
             (try clear hi)
             refine hK.out _ _ ⟨(blk_cell BK118.out 0).trans rfl, (blk_cell BK118.out 1).trans rfl⟩ (fun hHeld => ?_)
             clear hK K
             refine norm_ (a' := ?_) ?_ ?_
             rotate_left
             ·
              show Act.put _ (some 10) _ = _
              simp only [Act.put, List.setIfInBounds_toArray, List.set_cons_zero, List.set_cons_succ, i64_w, i32_w]
              rfl
             refine pure_ (i := 3) (N := some 7) (v := ?_) (a' := ?_) #[true, true, true, true, false, false, false, false, true, false, false, false] rfl rfl (any_of HT_.out (by kernel_rfl)) (fun _ _ _ h => h) (Or.inl ⟨by rfl, ?_⟩) ?_ ?_
             rotate_left
             ·
              intro w'
              go_simp
              with_reducible rfl
             rotate_left
             ·
              simp only [Act.put, List.setIfInBounds_toArray, List.set_cons_zero, List.set_cons_succ, i64_w, i32_w]
              rfl
             refine pure_ (i := 4) (N := some 11) (v := ?_) (a' := ?_) #[true, true, true, true, true, false, false, false, true, false, false, false] rfl rfl (any_of HT_.out (by kernel_rfl)) (fun _ _ _ h => h) (Or.inl ⟨by rfl, ?_⟩) ?_ ?_
             rotate_left
             ·
              intro w'
              go_simp
              with_reducible rfl
             rotate_left
             ·
              simp only [Act.put, List.setIfInBounds_toArray, List.set_cons_zero, List.set_cons_succ, i64_w, i32_w]
              rfl
             refine pure_ (i := 5) (N := some 12) (v := ?_) (a' := ?_) #[true, true, true, true, true, true, false, false, true, false, false, false] rfl rfl (any_of HT_.out (by kernel_rfl)) (fun _ _ _ h => h) (Or.inl ⟨by rfl, ?_⟩) ?_ ?_
             rotate_left
             ·
              intro w'
              go_simp
              with_reducible rfl
             rotate_left
             ·
              simp only [Act.put, List.setIfInBounds_toArray, List.set_cons_zero, List.set_cons_succ, i64_w, i32_w]
              rfl
             refine pure_ (i := 6) (N := some 13) (v := ?_) (a' := ?_) #[true, true, true, true, true, true, true, false, true, false, false, false] rfl rfl (any_of HT_.out (by kernel_rfl)) (fun _ _ _ h => h) (Or.inl ⟨by rfl, ?_⟩) ?_ ?_
             rotate_left
             ·
              intro w'
              go_simp
              with_reducible rfl
             rotate_left
             ·
              simp only [Act.put, List.setIfInBounds_toArray, List.set_cons_zero, List.set_cons_succ, i64_w, i32_w]
              rfl
             exact norm_ (by first | (simp only [putAll, Act.put, List.setIfInBounds_toArray, List.set_cons_zero, List.set_cons_succ]; done) | (simp only [putAll, Act.put, List.setIfInBounds_toArray, List.set_cons_zero, List.set_cons_succ]; rfl)) (hJ1_2_8 (gb127) _ ⟨hHeld, (by (with_reducible repeat (first | apply Kd.R_alloc | apply Kd.R_drewN | apply Kd.R_drew)); exact HO_3.out), (bT BK118.out), (bT BK127.out), GW127.out, GE127.out, NB118_127.out, NB127_118.out, (bW HB.out)⟩)
            ·
             skip
             refine box_step ?hg (N := 4) ?hd (cs := #[.int .u64 0, .int .u64 0]) (t := 24) ?hr ?_; (case hd => rfl); (case hg => rfl); (case hr => first | (go_simp; done) | (go_simp; rfl))
             intro gb126 hg w31 hbox hb
             have n0_ := Aside0.mk (Kd.R_below (by (with_reducible repeat (first | apply Kd.R_alloc | apply Kd.R_drewN | apply Kd.R_drew)); exact HO_3.out) hb)
             have n1_ := Aside0.mk (blk_below (bT BK118.out) hb)
             have n2_ := Aside0.mk (blk_below (bT BK127.out) hb)
             have n3_ := Aside0.mk (below_step (bW HB.out) hb)
             have n4_ := Aside0.mk (hbox)
             have n5_ := Aside0.mk ((by rw [hg]; exact (below_size (bW HB.out)) : w.heap.size ≤ gb126))
             have n6_ := Aside0.mk ((by rw [hg]; exact (below_size (bW HB.out)) : w.heap.size ≤ gb126))
             have n7_ := Aside0.mk ((by rw [hg]; exact Nat.ne_of_lt (blk_lt (bT BK118.out)) : gb118 ≠ gb126))
             have n8_ := Aside0.mk ((by rw [hg]; exact Nat.ne_of_gt (blk_lt (bT BK118.out)) : gb126 ≠ gb118))
             have n9_ := Aside0.mk ((by rw [hg]; exact Nat.ne_of_lt (blk_lt (bT BK127.out)) : gb127 ≠ gb126))
             have n10_ := Aside0.mk ((by rw [hg]; exact Nat.ne_of_gt (blk_lt (bT BK127.out)) : gb126 ≠ gb127))
             clear HO_3 BK118 BK127 HB
             have HO_3 := n0_
             have BK118 := n1_
             have BK127 := n2_
             have HB := n3_
             have BK126 := n4_
             have GW126 := n5_
             have GE126 := n6_
             have NB118_126 := n7_
             have NB126_118 := n8_
             have NB127_126 := n9_
             have NB126_127 := n10_
             clear n0_ n1_ n2_ n3_ n4_ n5_ n6_ n7_ n8_ n9_ n10_ hb hbox hg
             refine hK.out _ _ ⟨(blk_cell BK118.out 0).trans rfl, (blk_cell BK118.out 1).trans rfl⟩ (fun hHeld => ?_)
             clear hK K
             refine norm_ (a' := ?_) ?_ ?_
             rotate_left
             ·
              show Act.put _ (some 4) _ = _
              simp only [Act.put, List.setIfInBounds_toArray, List.set_cons_zero, List.set_cons_succ, i64_w, i32_w]
              rfl
             exact norm_ (by first | (simp only [putAll, Act.put, List.setIfInBounds_toArray, List.set_cons_zero, List.set_cons_succ]; done) | (simp only [putAll, Act.put, List.setIfInBounds_toArray, List.set_cons_zero, List.set_cons_succ]; rfl)) (hJ1_7_8 (gb126, gb127) _ ⟨hHeld, (by (with_reducible repeat (first | apply Kd.R_alloc | apply Kd.R_drewN | apply Kd.R_drew)); exact HO_3.out), (bT BK118.out), (bT BK126.out), (bT BK127.out), GW126.out, GE126.out, NB118_126.out, NB126_118.out, NB127_126.out, NB126_127.out, GW127.out, GE127.out, NB118_127.out, NB127_118.out, (bW HB.out)⟩)
          ·
           skip
           rintro gb126 w30 ⟨hS_, h0_, h1_, h2_, h3_, h4_, h5_, h6_, h7_⟩
           have n0_ : Aside0 (Kd.R (Kd.int .u8) 5 w30 w.heap.size (fun _ => True) u3 x3_1) := ⟨h0_⟩
           have n1_ : Aside0 (w30.heap[gb118]? = some (.cells #[.int .u64 x119000_1, .int .u64 x119001_1] 24 (0, 0))) := ⟨h1_⟩
           have n2_ : Aside0 (w30.heap[gb126]? = some (.cells #[.int .u64 0, .int .u64 0] 24 (0, 0))) := ⟨h2_⟩
           have n3_ : Aside0 (w.heap.size ≤ gb126) := ⟨h3_⟩
           have n4_ : Aside0 (w.heap.size ≤ gb126) := ⟨h4_⟩
           have n5_ : Aside0 (gb118 ≠ gb126) := ⟨h5_⟩
           have n6_ : Aside0 (gb126 ≠ gb118) := ⟨h6_⟩
           have n7_ : Aside0 (Below w.heap.size w w30) := ⟨h7_⟩
           clear HO_3 BK118 HB h0_ h1_ h2_ h3_ h4_ h5_ h6_ h7_
           have HO_3 := n0_
           have BK118 := n1_
           have BK126 := n2_
           have GW126 := n3_
           have GE126 := n4_
           have NB118_126 := n5_
           have NB126_118 := n6_
           have HB := n7_
           clear n0_ n1_ n2_ n3_ n4_ n5_ n6_ n7_
           have hHeld : w30.cell? ⟨gb118, 0, none⟩ = some (.int .u64 x119000_1) ∧ w30.cell? ⟨gb118, 1, none⟩ = some (.int .u64 x119001_1) := hS_
           refine norm_ (a' := ?_) ?_ ?_
           rotate_left
           ·
            simp only [putAll, Act.put, List.setIfInBounds_toArray, List.set_cons_zero, List.set_cons_succ]
            rfl
           refine two_ (i := 2) (j := 8) (Ni := some 10) (Nj := some 5) #[true, true, true, false, false, false, false, true, false, false, false, false] #[true, true, false, false, false, false, false, true, true, false, false, false] rfl rfl rfl rfl (two_of HT_.out (by kernel_rfl)) (by decide) (by decide) (fun K hK => ?_) (fun K hK => ?_)
           ·
            skip
            refine goes_ Try.func20 (by kernel_rfl) rfl #[.agg #[.int .u64 x119000_1, .int .u64 x119001_1], .agg #[.int .u64 t119, .int .u64 t120]] (by rfl) rfl rfl (by (try simp only [List.map_toArray, List.map_cons, List.map_nil]); first | done | rfl | (simp only [List.length_drop, List.length_take]; rfl)) ?_
            with_reducible refine (wide_Div.calls x119000_1 x119001_1 t119 t120 t121 t122 t123 t124 t125 _ A4.out).mono ?_
            rintro e w31 ⟨rfl, hb⟩
            refine ⟨_, rfl, ?_⟩
            have n0_ := Aside0.mk (Kd.R_below (by (with_reducible repeat (first | apply Kd.R_alloc | apply Kd.R_drewN | apply Kd.R_drew)); exact HO_3.out) hb)
            have n1_ := Aside0.mk (blk_below (bT BK118.out) hb)
            have n2_ := Aside0.mk (blk_below (bT BK126.out) hb)
            have n3_ := Aside0.mk (below_step (bW HB.out) hb)
            clear HO_3 BK118 BK126 HB
            have HO_3 := n0_
            have BK118 := n1_
            have BK126 := n2_
            have HB := n3_
            clear n0_ n1_ n2_ n3_
            (try clear hb)
            (try clear hb2)
            (try clear hk)
            (try clear hi)
            refine hK.out _ _ ⟨(blk_cell BK118.out 0).trans rfl, (blk_cell BK118.out 1).trans rfl⟩ (fun hHeld => ?_)
            clear hK K
            refine norm_ (a' := ?_) ?_ ?_
            rotate_left
            ·
             show Act.put _ (some 10) _ = _
             simp only [Act.put, List.setIfInBounds_toArray, List.set_cons_zero, List.set_cons_succ, i64_w, i32_w]
             rfl
            refine pure_ (i := 3) (N := some 7) (v := ?_) (a' := ?_) #[true, true, true, true, false, false, false, true, false, false, false, false] rfl rfl (any_of HT_.out (by kernel_rfl)) (fun _ _ _ h => h) (Or.inl ⟨by rfl, ?_⟩) ?_ ?_
            rotate_left
            ·
             intro w'
             go_simp
             with_reducible rfl
            rotate_left
            ·
             simp only [Act.put, List.setIfInBounds_toArray, List.set_cons_zero, List.set_cons_succ, i64_w, i32_w]
             rfl
            refine pure_ (i := 4) (N := some 11) (v := ?_) (a' := ?_) #[true, true, true, true, true, false, false, true, false, false, false, false] rfl rfl (any_of HT_.out (by kernel_rfl)) (fun _ _ _ h => h) (Or.inl ⟨by rfl, ?_⟩) ?_ ?_
            rotate_left
            ·
             intro w'
             go_simp
             with_reducible rfl
            rotate_left
            ·
             simp only [Act.put, List.setIfInBounds_toArray, List.set_cons_zero, List.set_cons_succ, i64_w, i32_w]
             rfl
            refine pure_ (i := 5) (N := some 12) (v := ?_) (a' := ?_) #[true, true, true, true, true, true, false, true, false, false, false, false] rfl rfl (any_of HT_.out (by kernel_rfl)) (fun _ _ _ h => h) (Or.inl ⟨by rfl, ?_⟩) ?_ ?_
            rotate_left
            ·
             intro w'
             go_simp
             with_reducible rfl
            rotate_left
            ·
             simp only [Act.put, List.setIfInBounds_toArray, List.set_cons_zero, List.set_cons_succ, i64_w, i32_w]
             rfl
            refine pure_ (i := 6) (N := some 13) (v := ?_) (a' := ?_) #[true, true, true, true, true, true, true, true, false, false, false, false] rfl rfl (any_of HT_.out (by kernel_rfl)) (fun _ _ _ h => h) (Or.inl ⟨by rfl, ?_⟩) ?_ ?_
            rotate_left
            ·
             intro w'
             go_simp
             with_reducible rfl
            rotate_left
            ·
             simp only [Act.put, List.setIfInBounds_toArray, List.set_cons_zero, List.set_cons_succ, i64_w, i32_w]
             rfl
            exact norm_ (by first | (simp only [putAll, Act.put, List.setIfInBounds_toArray, List.set_cons_zero, List.set_cons_succ]; done) | (simp only [putAll, Act.put, List.setIfInBounds_toArray, List.set_cons_zero, List.set_cons_succ]; rfl)) (hJ1_2_7 (gb126) _ ⟨hHeld, (by (with_reducible repeat (first | apply Kd.R_alloc | apply Kd.R_drewN | apply Kd.R_drew)); exact HO_3.out), (bT BK118.out), (bT BK126.out), GW126.out, GE126.out, NB118_126.out, NB126_118.out, (bW HB.out)⟩)
           ·
            skip
            refine box_step ?hg (N := 5) ?hd (cs := #[.int .u64 0, .int .u64 0]) (t := 24) ?hr ?_; (case hd => rfl); (case hg => rfl); (case hr => first | (go_simp; done) | (go_simp; rfl))
            intro gb127 hg w31 hbox hb
            have n0_ := Aside0.mk (Kd.R_below (by (with_reducible repeat (first | apply Kd.R_alloc | apply Kd.R_drewN | apply Kd.R_drew)); exact HO_3.out) hb)
            have n1_ := Aside0.mk (blk_below (bT BK118.out) hb)
            have n2_ := Aside0.mk (blk_below (bT BK126.out) hb)
            have n3_ := Aside0.mk (below_step (bW HB.out) hb)
            have n4_ := Aside0.mk (hbox)
            have n5_ := Aside0.mk ((by rw [hg]; exact (below_size (bW HB.out)) : w.heap.size ≤ gb127))
            have n6_ := Aside0.mk ((by rw [hg]; exact (below_size (bW HB.out)) : w.heap.size ≤ gb127))
            have n7_ := Aside0.mk ((by rw [hg]; exact Nat.ne_of_lt (blk_lt (bT BK118.out)) : gb118 ≠ gb127))
            have n8_ := Aside0.mk ((by rw [hg]; exact Nat.ne_of_gt (blk_lt (bT BK118.out)) : gb127 ≠ gb118))
            have n9_ := Aside0.mk ((by rw [hg]; exact Nat.ne_of_lt (blk_lt (bT BK126.out)) : gb126 ≠ gb127))
            have n10_ := Aside0.mk ((by rw [hg]; exact Nat.ne_of_gt (blk_lt (bT BK126.out)) : gb127 ≠ gb126))
            clear HO_3 BK118 BK126 HB
            have HO_3 := n0_
            have BK118 := n1_
            have BK126 := n2_
            have HB := n3_
            have BK127 := n4_
            have GW127 := n5_
            have GE127 := n6_
            have NB118_127 := n7_
            have NB127_118 := n8_
            have NB126_127 := n9_
            have NB127_126 := n10_
            clear n0_ n1_ n2_ n3_ n4_ n5_ n6_ n7_ n8_ n9_ n10_ hb hbox hg
            refine hK.out _ _ ⟨(blk_cell BK118.out 0).trans rfl, (blk_cell BK118.out 1).trans rfl⟩ (fun hHeld => ?_)
            clear hK K
            refine norm_ (a' := ?_) ?_ ?_
            rotate_left
            ·
             show Act.put _ (some 5) _ = _
             simp only [Act.put, List.setIfInBounds_toArray, List.set_cons_zero, List.set_cons_succ, i64_w, i32_w]
             rfl
            exact norm_ (by first | (simp only [putAll, Act.put, List.setIfInBounds_toArray, List.set_cons_zero, List.set_cons_succ]; done) | (simp only [putAll, Act.put, List.setIfInBounds_toArray, List.set_cons_zero, List.set_cons_succ]; rfl)) (hJ1_7_8 (gb126, gb127) _ ⟨hHeld, (by (with_reducible repeat (first | apply Kd.R_alloc | apply Kd.R_drewN | apply Kd.R_drew)); exact HO_3.out), (bT BK118.out), (bT BK126.out), (bT BK127.out), GW126.out, GE126.out, NB118_126.out, NB126_118.out, NB127_126.out, NB126_127.out, GW127.out, GE127.out, NB118_127.out, NB127_118.out, (bW HB.out)⟩)
         ·
          skip
          rintro _ w30 ⟨hS_, h0_, h1_, h2_⟩
          have n0_ : Aside0 (Kd.R (Kd.int .u8) 5 w30 w.heap.size (fun _ => True) u3 x3_1) := ⟨h0_⟩
          have n1_ : Aside0 (w30.heap[gb118]? = some (.cells #[.int .u64 x119000_1, .int .u64 x119001_1] 24 (0, 0))) := ⟨h1_⟩
          have n2_ : Aside0 (Below w.heap.size w w30) := ⟨h2_⟩
          clear HO_3 BK118 HB h0_ h1_ h2_
          have HO_3 := n0_
          have BK118 := n1_
          have HB := n2_
          clear n0_ n1_ n2_
          have hHeld : w30.cell? ⟨gb118, 0, none⟩ = some (.int .u64 x119000_1) ∧ w30.cell? ⟨gb118, 1, none⟩ = some (.int .u64 x119001_1) := hS_
          refine norm_ (a' := ?_) ?_ ?_
          rotate_left
          ·
           simp only [putAll, Act.put, List.setIfInBounds_toArray, List.set_cons_zero, List.set_cons_succ]
           rfl
          refine two_ (i := 7) (j := 8) (Ni := some 4) (Nj := some 5) #[true, true, true, true, true, true, true, true, false, false, false, false] #[true, true, true, true, true, true, true, false, true, false, false, false] rfl rfl rfl rfl (two_of HT_.out (by kernel_rfl)) (by decide) (by decide) (fun K hK => ?_) (fun K hK => ?_)
          ·
           skip
           refine box_step ?hg (N := 4) ?hd (cs := #[.int .u64 0, .int .u64 0]) (t := 24) ?hr ?_; (case hd => rfl); (case hg => rfl); (case hr => first | (go_simp; done) | (go_simp; rfl))
           intro gb126 hg w31 hbox hb
           have n0_ := Aside0.mk (Kd.R_below (by (with_reducible repeat (first | apply Kd.R_alloc | apply Kd.R_drewN | apply Kd.R_drew)); exact HO_3.out) hb)
           have n1_ := Aside0.mk (blk_below (bT BK118.out) hb)
           have n2_ := Aside0.mk (below_step (bW HB.out) hb)
           have n3_ := Aside0.mk (hbox)
           have n4_ := Aside0.mk ((by rw [hg]; exact (below_size (bW HB.out)) : w.heap.size ≤ gb126))
           have n5_ := Aside0.mk ((by rw [hg]; exact (below_size (bW HB.out)) : w.heap.size ≤ gb126))
           have n6_ := Aside0.mk ((by rw [hg]; exact Nat.ne_of_lt (blk_lt (bT BK118.out)) : gb118 ≠ gb126))
           have n7_ := Aside0.mk ((by rw [hg]; exact Nat.ne_of_gt (blk_lt (bT BK118.out)) : gb126 ≠ gb118))
           clear HO_3 BK118 HB
           have HO_3 := n0_
           have BK118 := n1_
           have HB := n2_
           have BK126 := n3_
           have GW126 := n4_
           have GE126 := n5_
           have NB118_126 := n6_
           have NB126_118 := n7_
           clear n0_ n1_ n2_ n3_ n4_ n5_ n6_ n7_ hb hbox hg
           refine hK.out _ _ ⟨(blk_cell BK118.out 0).trans rfl, (blk_cell BK118.out 1).trans rfl⟩ (fun hHeld => ?_)
           clear hK K
           refine norm_ (a' := ?_) ?_ ?_
           rotate_left
           ·
            show Act.put _ (some 4) _ = _
            simp only [Act.put, List.setIfInBounds_toArray, List.set_cons_zero, List.set_cons_succ, i64_w, i32_w]
            rfl
           exact norm_ (by first | (simp only [putAll, Act.put, List.setIfInBounds_toArray, List.set_cons_zero, List.set_cons_succ]; done) | (simp only [putAll, Act.put, List.setIfInBounds_toArray, List.set_cons_zero, List.set_cons_succ]; rfl)) (hJ1_2_7 (gb126) _ ⟨hHeld, (by (with_reducible repeat (first | apply Kd.R_alloc | apply Kd.R_drewN | apply Kd.R_drew)); exact HO_3.out), (bT BK118.out), (bT BK126.out), GW126.out, GE126.out, NB118_126.out, NB126_118.out, (bW HB.out)⟩)
          ·
           skip
           refine box_step ?hg (N := 5) ?hd (cs := #[.int .u64 0, .int .u64 0]) (t := 24) ?hr ?_; (case hd => rfl); (case hg => rfl); (case hr => first | (go_simp; done) | (go_simp; rfl))
           intro gb127 hg w31 hbox hb
           have n0_ := Aside0.mk (Kd.R_below (by (with_reducible repeat (first | apply Kd.R_alloc | apply Kd.R_drewN | apply Kd.R_drew)); exact HO_3.out) hb)
           have n1_ := Aside0.mk (blk_below (bT BK118.out) hb)
           have n2_ := Aside0.mk (below_step (bW HB.out) hb)
           have n3_ := Aside0.mk (hbox)
           have n4_ := Aside0.mk ((by rw [hg]; exact (below_size (bW HB.out)) : w.heap.size ≤ gb127))
           have n5_ := Aside0.mk ((by rw [hg]; exact (below_size (bW HB.out)) : w.heap.size ≤ gb127))
           have n6_ := Aside0.mk ((by rw [hg]; exact Nat.ne_of_lt (blk_lt (bT BK118.out)) : gb118 ≠ gb127))
           have n7_ := Aside0.mk ((by rw [hg]; exact Nat.ne_of_gt (blk_lt (bT BK118.out)) : gb127 ≠ gb118))
           clear HO_3 BK118 HB
           have HO_3 := n0_
           have BK118 := n1_
           have HB := n2_
           have BK127 := n3_
           have GW127 := n4_
           have GE127 := n5_
           have NB118_127 := n6_
           have NB127_118 := n7_
           clear n0_ n1_ n2_ n3_ n4_ n5_ n6_ n7_ hb hbox hg
           refine hK.out _ _ ⟨(blk_cell BK118.out 0).trans rfl, (blk_cell BK118.out 1).trans rfl⟩ (fun hHeld => ?_)
           clear hK K
           refine norm_ (a' := ?_) ?_ ?_
           rotate_left
           ·
            show Act.put _ (some 5) _ = _
            simp only [Act.put, List.setIfInBounds_toArray, List.set_cons_zero, List.set_cons_succ, i64_w, i32_w]
            rfl
           exact norm_ (by first | (simp only [putAll, Act.put, List.setIfInBounds_toArray, List.set_cons_zero, List.set_cons_succ]; done) | (simp only [putAll, Act.put, List.setIfInBounds_toArray, List.set_cons_zero, List.set_cons_succ]; rfl)) (hJ1_2_8 (gb127) _ ⟨hHeld, (by (with_reducible repeat (first | apply Kd.R_alloc | apply Kd.R_drewN | apply Kd.R_drew)); exact HO_3.out), (bT BK118.out), (bT BK127.out), GW127.out, GE127.out, NB118_127.out, NB127_118.out, (bW HB.out)⟩)
        ·
         skip
         rintro ⟨gb126, gb127⟩ w31 ⟨hS_, h0_, h1_, h2_, h3_, h4_, h5_, h6_, h7_, h8_, h9_, h10_, h11_, h12_, h13_, h14_⟩
         have n0_ : Aside0 (Kd.R (Kd.int .u8) 5 w31 w.heap.size (fun _ => True) u3 x3_1) := ⟨h0_⟩
         have n1_ : Aside0 (w31.heap[gb118]? = some (.cells #[.int .u64 x119000_1, .int .u64 x119001_1] 24 (0, 0))) := ⟨h1_⟩
         have n2_ : Aside0 (w31.heap[gb126]? = some (.cells #[.int .u64 0, .int .u64 0] 24 (0, 0))) := ⟨h2_⟩
         have n3_ : Aside0 (w31.heap[gb127]? = some (.cells #[.int .u64 0, .int .u64 0] 24 (0, 0))) := ⟨h3_⟩
         have n4_ : Aside0 (w.heap.size ≤ gb126) := ⟨h4_⟩
         have n5_ : Aside0 (w.heap.size ≤ gb126) := ⟨h5_⟩
         have n6_ : Aside0 (gb118 ≠ gb126) := ⟨h6_⟩
         have n7_ : Aside0 (gb126 ≠ gb118) := ⟨h7_⟩
         have n8_ : Aside0 (gb127 ≠ gb126) := ⟨h8_⟩
         have n9_ : Aside0 (gb126 ≠ gb127) := ⟨h9_⟩
         have n10_ : Aside0 (w.heap.size ≤ gb127) := ⟨h10_⟩
         have n11_ : Aside0 (w.heap.size ≤ gb127) := ⟨h11_⟩
         have n12_ : Aside0 (gb118 ≠ gb127) := ⟨h12_⟩
         have n13_ : Aside0 (gb127 ≠ gb118) := ⟨h13_⟩
         have n14_ : Aside0 (Below w.heap.size w w31) := ⟨h14_⟩
         clear HO_3 BK118 HB h0_ h1_ h2_ h3_ h4_ h5_ h6_ h7_ h8_ h9_ h10_ h11_ h12_ h13_ h14_
         have HO_3 := n0_
         have BK118 := n1_
         have BK126 := n2_
         have BK127 := n3_
         have GW126 := n4_
         have GE126 := n5_
         have NB118_126 := n6_
         have NB126_118 := n7_
         have NB127_126 := n8_
         have NB126_127 := n9_
         have GW127 := n10_
         have GE127 := n11_
         have NB118_127 := n12_
         have NB127_118 := n13_
         have HB := n14_
         clear n0_ n1_ n2_ n3_ n4_ n5_ n6_ n7_ n8_ n9_ n10_ n11_ n12_ n13_ n14_
         have hHeld : w31.cell? ⟨gb118, 0, none⟩ = some (.int .u64 x119000_1) ∧ w31.cell? ⟨gb118, 1, none⟩ = some (.int .u64 x119001_1) := hS_
         refine norm_ (a' := ?_) ?_ ?_
         rotate_left
         ·
          simp only [putAll, Act.put, List.setIfInBounds_toArray, List.set_cons_zero, List.set_cons_succ]
          rfl
         refine one_ (i := 2) (N := some 10) #[true, true, true, false, false, false, false, true, true, false, false, false] rfl rfl (one_of HT_.out (by kernel_rfl)) (by decide) (fun K hK => ?_)
         refine goes_ Try.func20 (by kernel_rfl) rfl #[.agg #[.int .u64 x119000_1, .int .u64 x119001_1], .agg #[.int .u64 t119, .int .u64 t120]] (by rfl) rfl rfl (by (try simp only [List.map_toArray, List.map_cons, List.map_nil]); first | done | rfl | (simp only [List.length_drop, List.length_take]; rfl)) ?_
         with_reducible refine (wide_Div.calls x119000_1 x119001_1 t119 t120 t121 t122 t123 t124 t125 _ A4.out).mono ?_
         rintro e w32 ⟨rfl, hb⟩
         refine ⟨_, rfl, ?_⟩
         have n0_ := Aside0.mk (Kd.R_below (by (with_reducible repeat (first | apply Kd.R_alloc | apply Kd.R_drewN | apply Kd.R_drew)); exact HO_3.out) hb)
         have n1_ := Aside0.mk (blk_below (bT BK118.out) hb)
         have n2_ := Aside0.mk (blk_below (bT BK126.out) hb)
         have n3_ := Aside0.mk (blk_below (bT BK127.out) hb)
         have n4_ := Aside0.mk (below_step (bW HB.out) hb)
         clear HO_3 BK118 BK126 BK127 HB
         have HO_3 := n0_
         have BK118 := n1_
         have BK126 := n2_
         have BK127 := n3_
         have HB := n4_
         clear n0_ n1_ n2_ n3_ n4_
         (try clear hb)
         (try clear hb2)
         (try clear hk)
         (try clear hi)
         refine hK.out _ _ ⟨(blk_cell BK118.out 0).trans rfl, (blk_cell BK118.out 1).trans rfl⟩ (fun hHeld => ?_)
         clear hK K
         refine norm_ (a' := ?_) ?_ ?_
         rotate_left
         ·
          show Act.put _ (some 10) _ = _
          simp only [Act.put, List.setIfInBounds_toArray, List.set_cons_zero, List.set_cons_succ, i64_w, i32_w]
          rfl
         refine pure_ (i := 3) (N := some 7) (v := ?_) (a' := ?_) #[true, true, true, true, false, false, false, true, true, false, false, false] rfl rfl (any_of HT_.out (by kernel_rfl)) (fun _ _ _ h => h) (Or.inl ⟨by rfl, ?_⟩) ?_ ?_
         rotate_left
         ·
          intro w'
          go_simp
          with_reducible rfl
         rotate_left
         ·
          simp only [Act.put, List.setIfInBounds_toArray, List.set_cons_zero, List.set_cons_succ, i64_w, i32_w]
          rfl
         refine pure_ (i := 4) (N := some 11) (v := ?_) (a' := ?_) #[true, true, true, true, true, false, false, true, true, false, false, false] rfl rfl (any_of HT_.out (by kernel_rfl)) (fun _ _ _ h => h) (Or.inl ⟨by rfl, ?_⟩) ?_ ?_
         rotate_left
         ·
          intro w'
          go_simp
          with_reducible rfl
         rotate_left
         ·
          simp only [Act.put, List.setIfInBounds_toArray, List.set_cons_zero, List.set_cons_succ, i64_w, i32_w]
          rfl
         refine pure_ (i := 5) (N := some 12) (v := ?_) (a' := ?_) #[true, true, true, true, true, true, false, true, true, false, false, false] rfl rfl (any_of HT_.out (by kernel_rfl)) (fun _ _ _ h => h) (Or.inl ⟨by rfl, ?_⟩) ?_ ?_
         rotate_left
         ·
          intro w'
          go_simp
          with_reducible rfl
         rotate_left
         ·
          simp only [Act.put, List.setIfInBounds_toArray, List.set_cons_zero, List.set_cons_succ, i64_w, i32_w]
          rfl
         refine pure_ (i := 6) (N := some 13) (v := ?_) (a' := ?_) #[true, true, true, true, true, true, true, true, true, false, false, false] rfl rfl (any_of HT_.out (by kernel_rfl)) (fun _ _ _ h => h) (Or.inl ⟨by rfl, ?_⟩) ?_ ?_
         rotate_left
         ·
          intro w'
          go_simp
          with_reducible rfl
         rotate_left
         ·
          simp only [Act.put, List.setIfInBounds_toArray, List.set_cons_zero, List.set_cons_succ, i64_w, i32_w]
          rfl
         exact norm_ (by first | (simp only [putAll, Act.put, List.setIfInBounds_toArray, List.set_cons_zero, List.set_cons_succ]; done) | (simp only [putAll, Act.put, List.setIfInBounds_toArray, List.set_cons_zero, List.set_cons_succ]; rfl)) (hJ1_2_7_8 (gb126, gb127) _ ⟨hHeld, (by (with_reducible repeat (first | apply Kd.R_alloc | apply Kd.R_drewN | apply Kd.R_drew)); exact HO_3.out), (bT BK118.out), (bT BK126.out), (bT BK127.out), GW126.out, GE126.out, NB118_126.out, NB126_118.out, NB127_126.out, NB126_127.out, GW127.out, GE127.out, NB118_127.out, NB127_118.out, (bW HB.out)⟩)
       ·
        skip
        rintro gb127 w31 ⟨hS_, h0_, h1_, h2_, h3_, h4_, h5_, h6_, h7_⟩
        have n0_ : Aside0 (Kd.R (Kd.int .u8) 5 w31 w.heap.size (fun _ => True) u3 x3_1) := ⟨h0_⟩
        have n1_ : Aside0 (w31.heap[gb118]? = some (.cells #[.int .u64 x119000_1, .int .u64 x119001_1] 24 (0, 0))) := ⟨h1_⟩
        have n2_ : Aside0 (w31.heap[gb127]? = some (.cells #[.int .u64 0, .int .u64 0] 24 (0, 0))) := ⟨h2_⟩
        have n3_ : Aside0 (w.heap.size ≤ gb127) := ⟨h3_⟩
        have n4_ : Aside0 (w.heap.size ≤ gb127) := ⟨h4_⟩
        have n5_ : Aside0 (gb118 ≠ gb127) := ⟨h5_⟩
        have n6_ : Aside0 (gb127 ≠ gb118) := ⟨h6_⟩
        have n7_ : Aside0 (Below w.heap.size w w31) := ⟨h7_⟩
        clear HO_3 BK118 HB h0_ h1_ h2_ h3_ h4_ h5_ h6_ h7_
        have HO_3 := n0_
        have BK118 := n1_
        have BK127 := n2_
        have GW127 := n3_
        have GE127 := n4_
        have NB118_127 := n5_
        have NB127_118 := n6_
        have HB := n7_
        clear n0_ n1_ n2_ n3_ n4_ n5_ n6_ n7_
        have hHeld : w31.cell? ⟨gb118, 0, none⟩ = some (.int .u64 x119000_1) ∧ w31.cell? ⟨gb118, 1, none⟩ = some (.int .u64 x119001_1) := hS_
        refine norm_ (a' := ?_) ?_ ?_
        rotate_left
        ·
         simp only [putAll, Act.put, List.setIfInBounds_toArray, List.set_cons_zero, List.set_cons_succ]
         rfl
        refine one_ (i := 7) (N := some 4) #[true, true, true, true, true, true, true, true, true, false, false, false] rfl rfl (one_of HT_.out (by kernel_rfl)) (by decide) (fun K hK => ?_)
        refine box_step ?hg (N := 4) ?hd (cs := #[.int .u64 0, .int .u64 0]) (t := 24) ?hr ?_; (case hd => rfl); (case hg => rfl); (case hr => first | (go_simp; done) | (go_simp; rfl))
        intro gb126 hg w32 hbox hb
        have n0_ := Aside0.mk (Kd.R_below (by (with_reducible repeat (first | apply Kd.R_alloc | apply Kd.R_drewN | apply Kd.R_drew)); exact HO_3.out) hb)
        have n1_ := Aside0.mk (blk_below (bT BK118.out) hb)
        have n2_ := Aside0.mk (blk_below (bT BK127.out) hb)
        have n3_ := Aside0.mk (below_step (bW HB.out) hb)
        have n4_ := Aside0.mk (hbox)
        have n5_ := Aside0.mk ((by rw [hg]; exact (below_size (bW HB.out)) : w.heap.size ≤ gb126))
        have n6_ := Aside0.mk ((by rw [hg]; exact (below_size (bW HB.out)) : w.heap.size ≤ gb126))
        have n7_ := Aside0.mk ((by rw [hg]; exact Nat.ne_of_lt (blk_lt (bT BK118.out)) : gb118 ≠ gb126))
        have n8_ := Aside0.mk ((by rw [hg]; exact Nat.ne_of_gt (blk_lt (bT BK118.out)) : gb126 ≠ gb118))
        have n9_ := Aside0.mk ((by rw [hg]; exact Nat.ne_of_lt (blk_lt (bT BK127.out)) : gb127 ≠ gb126))
        have n10_ := Aside0.mk ((by rw [hg]; exact Nat.ne_of_gt (blk_lt (bT BK127.out)) : gb126 ≠ gb127))
        clear HO_3 BK118 BK127 HB
        have HO_3 := n0_
        have BK118 := n1_
        have BK127 := n2_
        have HB := n3_
        have BK126 := n4_
        have GW126 := n5_
        have GE126 := n6_
        have NB118_126 := n7_
        have NB126_118 := n8_
        have NB127_126 := n9_
        have NB126_127 := n10_
        clear n0_ n1_ n2_ n3_ n4_ n5_ n6_ n7_ n8_ n9_ n10_ hb hbox hg
        refine hK.out _ _ ⟨(blk_cell BK118.out 0).trans rfl, (blk_cell BK118.out 1).trans rfl⟩ (fun hHeld => ?_)
        clear hK K
        refine norm_ (a' := ?_) ?_ ?_
        rotate_left
        ·
         show Act.put _ (some 4) _ = _
         simp only [Act.put, List.setIfInBounds_toArray, List.set_cons_zero, List.set_cons_succ, i64_w, i32_w]
         rfl
        exact norm_ (by first | (simp only [putAll, Act.put, List.setIfInBounds_toArray, List.set_cons_zero, List.set_cons_succ]; done) | (simp only [putAll, Act.put, List.setIfInBounds_toArray, List.set_cons_zero, List.set_cons_succ]; rfl)) (hJ1_2_7_8 (gb126, gb127) _ ⟨hHeld, (by (with_reducible repeat (first | apply Kd.R_alloc | apply Kd.R_drewN | apply Kd.R_drew)); exact HO_3.out), (bT BK118.out), (bT BK126.out), (bT BK127.out), GW126.out, GE126.out, NB118_126.out, NB126_118.out, NB127_126.out, NB126_127.out, GW127.out, GE127.out, NB118_127.out, NB127_118.out, (bW HB.out)⟩)
      ·
       skip
       rintro gb126 w31 ⟨hS_, h0_, h1_, h2_, h3_, h4_, h5_, h6_, h7_⟩
       have n0_ : Aside0 (Kd.R (Kd.int .u8) 5 w31 w.heap.size (fun _ => True) u3 x3_1) := ⟨h0_⟩
       have n1_ : Aside0 (w31.heap[gb118]? = some (.cells #[.int .u64 x119000_1, .int .u64 x119001_1] 24 (0, 0))) := ⟨h1_⟩
       have n2_ : Aside0 (w31.heap[gb126]? = some (.cells #[.int .u64 0, .int .u64 0] 24 (0, 0))) := ⟨h2_⟩
       have n3_ : Aside0 (w.heap.size ≤ gb126) := ⟨h3_⟩
       have n4_ : Aside0 (w.heap.size ≤ gb126) := ⟨h4_⟩
       have n5_ : Aside0 (gb118 ≠ gb126) := ⟨h5_⟩
       have n6_ : Aside0 (gb126 ≠ gb118) := ⟨h6_⟩
       have n7_ : Aside0 (Below w.heap.size w w31) := ⟨h7_⟩
       clear HO_3 BK118 HB h0_ h1_ h2_ h3_ h4_ h5_ h6_ h7_
       have HO_3 := n0_
       have BK118 := n1_
       have BK126 := n2_
       have GW126 := n3_
       have GE126 := n4_
       have NB118_126 := n5_
       have NB126_118 := n6_
       have HB := n7_
       clear n0_ n1_ n2_ n3_ n4_ n5_ n6_ n7_
       have hHeld : w31.cell? ⟨gb118, 0, none⟩ = some (.int .u64 x119000_1) ∧ w31.cell? ⟨gb118, 1, none⟩ = some (.int .u64 x119001_1) := hS_
       refine norm_ (a' := ?_) ?_ ?_
       rotate_left
       ·
        simp only [putAll, Act.put, List.setIfInBounds_toArray, List.set_cons_zero, List.set_cons_succ]
        rfl
       refine one_ (i := 8) (N := some 5) #[true, true, true, true, true, true, true, true, true, false, false, false] rfl rfl (one_of HT_.out (by kernel_rfl)) (by decide) (fun K hK => ?_)
       refine box_step ?hg (N := 5) ?hd (cs := #[.int .u64 0, .int .u64 0]) (t := 24) ?hr ?_; (case hd => rfl); (case hg => rfl); (case hr => first | (go_simp; done) | (go_simp; rfl))
       intro gb127 hg w32 hbox hb
       have n0_ := Aside0.mk (Kd.R_below (by (with_reducible repeat (first | apply Kd.R_alloc | apply Kd.R_drewN | apply Kd.R_drew)); exact HO_3.out) hb)
       have n1_ := Aside0.mk (blk_below (bT BK118.out) hb)
       have n2_ := Aside0.mk (blk_below (bT BK126.out) hb)
       have n3_ := Aside0.mk (below_step (bW HB.out) hb)
       have n4_ := Aside0.mk (hbox)
       have n5_ := Aside0.mk ((by rw [hg]; exact (below_size (bW HB.out)) : w.heap.size ≤ gb127))
       have n6_ := Aside0.mk ((by rw [hg]; exact (below_size (bW HB.out)) : w.heap.size ≤ gb127))
       have n7_ := Aside0.mk ((by rw [hg]; exact Nat.ne_of_lt (blk_lt (bT BK118.out)) : gb118 ≠ gb127))
       have n8_ := Aside0.mk ((by rw [hg]; exact Nat.ne_of_gt (blk_lt (bT BK118.out)) : gb127 ≠ gb118))
       have n9_ := Aside0.mk ((by rw [hg]; exact Nat.ne_of_lt (blk_lt (bT BK126.out)) : gb126 ≠ gb127))
       have n10_ := Aside0.mk ((by rw [hg]; exact Nat.ne_of_gt (blk_lt (bT BK126.out)) : gb127 ≠ gb126))
       clear HO_3 BK118 BK126 HB
       have HO_3 := n0_
       have BK118 := n1_
       have BK126 := n2_
       have HB := n3_
       have BK127 := n4_
       have GW127 := n5_
       have GE127 := n6_
       have NB118_127 := n7_
       have NB127_118 := n8_
       have NB126_127 := n9_
       have NB127_126 := n10_
       clear n0_ n1_ n2_ n3_ n4_ n5_ n6_ n7_ n8_ n9_ n10_ hb hbox hg
       refine hK.out _ _ ⟨(blk_cell BK118.out 0).trans rfl, (blk_cell BK118.out 1).trans rfl⟩ (fun hHeld => ?_)
       clear hK K
       refine norm_ (a' := ?_) ?_ ?_
       rotate_left
       ·
        show Act.put _ (some 5) _ = _
        simp only [Act.put, List.setIfInBounds_toArray, List.set_cons_zero, List.set_cons_succ, i64_w, i32_w]
        rfl
       exact norm_ (by first | (simp only [putAll, Act.put, List.setIfInBounds_toArray, List.set_cons_zero, List.set_cons_succ]; done) | (simp only [putAll, Act.put, List.setIfInBounds_toArray, List.set_cons_zero, List.set_cons_succ]; rfl)) (hJ1_2_7_8 (gb126, gb127) _ ⟨hHeld, (by (with_reducible repeat (first | apply Kd.R_alloc | apply Kd.R_drewN | apply Kd.R_drew)); exact HO_3.out), (bT BK118.out), (bT BK126.out), (bT BK127.out), GW126.out, GE126.out, NB118_126.out, NB126_118.out, NB127_126.out, NB126_127.out, GW127.out, GE127.out, NB118_127.out, NB127_118.out, (bW HB.out)⟩)
     rintro ⟨gb126, gb127⟩ w32 ⟨hS_, h0_, h1_, h2_, h3_, h4_, h5_, h6_, h7_, h8_, h9_, h10_, h11_, h12_, h13_, h14_⟩
     have n0_ : Aside0 (Kd.R (Kd.int .u8) 5 w32 w.heap.size (fun _ => True) u3 x3_1) := ⟨h0_⟩
     have n1_ : Aside0 (w32.heap[gb118]? = some (.cells #[.int .u64 x119000_1, .int .u64 x119001_1] 24 (0, 0))) := ⟨h1_⟩
     have n2_ : Aside0 (w32.heap[gb126]? = some (.cells #[.int .u64 0, .int .u64 0] 24 (0, 0))) := ⟨h2_⟩
     have n3_ : Aside0 (w32.heap[gb127]? = some (.cells #[.int .u64 0, .int .u64 0] 24 (0, 0))) := ⟨h3_⟩
     have n4_ : Aside0 (w.heap.size ≤ gb126) := ⟨h4_⟩
     have n5_ : Aside0 (w.heap.size ≤ gb126) := ⟨h5_⟩
     have n6_ : Aside0 (gb118 ≠ gb126) := ⟨h6_⟩
     have n7_ : Aside0 (gb126 ≠ gb118) := ⟨h7_⟩
     have n8_ : Aside0 (gb127 ≠ gb126) := ⟨h8_⟩
     have n9_ : Aside0 (gb126 ≠ gb127) := ⟨h9_⟩
     have n10_ : Aside0 (w.heap.size ≤ gb127) := ⟨h10_⟩
     have n11_ : Aside0 (w.heap.size ≤ gb127) := ⟨h11_⟩
     have n12_ : Aside0 (gb118 ≠ gb127) := ⟨h12_⟩
     have n13_ : Aside0 (gb127 ≠ gb118) := ⟨h13_⟩
     have n14_ : Aside0 (Below w.heap.size w w32) := ⟨h14_⟩
     clear HO_3 BK118 HB h0_ h1_ h2_ h3_ h4_ h5_ h6_ h7_ h8_ h9_ h10_ h11_ h12_ h13_ h14_
     have HO_3 := n0_
     have BK118 := n1_
     have BK126 := n2_
     have BK127 := n3_
     have GW126 := n4_
     have GE126 := n5_
     have NB118_126 := n6_
     have NB126_118 := n7_
     have NB127_126 := n8_
     have NB126_127 := n9_
     have GW127 := n10_
     have GE127 := n11_
     have NB118_127 := n12_
     have NB127_118 := n13_
     have HB := n14_
     clear n0_ n1_ n2_ n3_ n4_ n5_ n6_ n7_ n8_ n9_ n10_ n11_ n12_ n13_ n14_
     have hHeld : w32.cell? ⟨gb118, 0, none⟩ = some (.int .u64 x119000_1) ∧ w32.cell? ⟨gb118, 1, none⟩ = some (.int .u64 x119001_1) := hS_
     refine norm_ (a' := ?_) ?_ ?_
     rotate_left
     ·
      simp only [putAll, Act.put, List.setIfInBounds_toArray, List.set_cons_zero, List.set_cons_succ]
      rfl
     refine one_ (i := 9) (N := none) #[true, true, true, true, true, true, true, true, true, true, false, false] rfl rfl (one_of HT_.out (by kernel_rfl)) (by decide) (fun K hK => ?_)
     have hs33 : w32.cell? ⟨gb126, 0, none⟩ = some (.int .u64 0) := (blk_cell BK126.out 0).trans rfl
     have hfs33 := blk_frozen BK126.out 0
     have hns33_0 := NB118_126.out
     have hns33_2 := NB127_126.out
     have hms33_0 := NB126_118.out
     have hms33_2 := NB126_127.out
     have hs34 : w32.cell? ⟨gb126, 1, none⟩ = some (.int .u64 0) := (blk_cell BK126.out 1).trans rfl
     have hfs34 := blk_frozen BK126.out 1
     have hns34_0 := NB118_126.out
     have hns34_2 := NB127_126.out
     have hms34_0 := NB126_118.out
     have hms34_2 := NB126_127.out
     refine skip_ (w1 := ?_) (by rfl) rfl ?_ ?_
     rotate_left
     ·
      go_simp
      rfl
     refine hK.out _ _ ⟨((cell_far (p := ⟨gb126, _, none⟩) NB118_126.out _).trans (((cell_far (p := ⟨gb126, _, none⟩) NB118_126.out _).trans (hHeld.1)))), ((cell_far (p := ⟨gb126, _, none⟩) NB118_126.out _).trans (((cell_far (p := ⟨gb126, _, none⟩) NB118_126.out _).trans (hHeld.2))))⟩ (fun hHeld => ?_)
     clear hK K
     refine one_ (i := 10) (N := none) #[true, true, true, true, true, true, true, true, true, true, true, false] rfl rfl (one_of HT_.out (by kernel_rfl)) (by decide) (fun K hK => ?_)
     have hs35 : w32.cell? ⟨gb127, 0, none⟩ = some (.int .u64 0) := (blk_cell BK127.out 0).trans rfl
     have hfs35 := blk_frozen BK127.out 0
     have hns35_0 := NB118_127.out
     have hns35_1 := NB126_127.out
     have hms35_0 := NB127_118.out
     have hms35_1 := NB127_126.out
     have hs36 : w32.cell? ⟨gb127, 1, none⟩ = some (.int .u64 0) := (blk_cell BK127.out 1).trans rfl
     have hfs36 := blk_frozen BK127.out 1
     have hns36_0 := NB118_127.out
     have hns36_1 := NB126_127.out
     have hms36_0 := NB127_118.out
     have hms36_1 := NB127_126.out
     refine skip_ (w1 := ?_) (by rfl) rfl ?_ ?_
     rotate_left
     ·
      go_simp
      rfl
     refine hK.out _ _ ⟨((cell_far (p := ⟨gb127, _, none⟩) NB118_127.out _).trans (((cell_far (p := ⟨gb127, _, none⟩) NB118_127.out _).trans (hHeld.1)))), ((cell_far (p := ⟨gb127, _, none⟩) NB118_127.out _).trans (((cell_far (p := ⟨gb127, _, none⟩) NB118_127.out _).trans (hHeld.2))))⟩ (fun hHeld => ?_)
     clear hK K
     refine pure_ (i := 11) (N := some 6) (v := ?_) (a' := ?_) #[true, true, true, true, true, true, true, true, true, true, true, true] rfl rfl (any_of HT_.out (by kernel_rfl)) (fun _ _ _ h => h) (Or.inl ⟨by rfl, ?_⟩) ?_ ?_
     rotate_left
     ·
      intro w'
      go_simp
      with_reducible rfl
     rotate_left
     ·
      simp only [Act.put, List.setIfInBounds_toArray, List.set_cons_zero, List.set_cons_succ, i64_w, i32_w]
      rfl
     refine done_ (done_of HT_.out (by kernel_rfl)) ?_
     have hnb37 := NB127_118.out
     have hnc37 := NB118_127.out
     have hnb38 := NB127_126.out
     have hnc38 := NB126_127.out
     have hcz39_0 : w32.cell? ⟨gb127, 0, none⟩ = some (.int .u64 0) := (blk_cell BK127.out 0).trans rfl
     have hcz39_1 : w32.cell? ⟨gb127, 1, none⟩ = some (.int .u64 0) := (blk_cell BK127.out 1).trans rfl
     have hfz39_0 := blk_frozen BK127.out 0
     have hfz39_1 := blk_frozen BK127.out 1
     try go_wp2_with (first | ((with_reducible refine gate_dst (N := 18) rfl ?_); refine Kd.R_lit (Kd.int .u8) _ 5 ?hg (N := 18) ?hd (xs := ([(48 + ((t124) % 256)) % 256] : List Int)) (inner := [.int .u8 ((48 + ((t124) % 256)) % 256)]) (ok := fun _ => True) (okp := fun _ => True) ?hr ?hp (fun _ hk => hk) trivial (Below.refl _ _) (Nat.le_refl _) (by simp) ?_; (case hd => rfl); (case hg => rfl); (case hr => first | (go_simp; done) | (go_simp; rfl)); (case hp => exact (Reps.one (show Kd.M (Kd.int .u8) _ _ _ ((48 + ((t124) % 256)) % 256) [.int .u8 ((48 + ((t124) % 256)) % 256)] from rfl) (Reps.none _ _))); intro v129 w40 ho41 hb hg_ hnew_; clear hg_ hnew_; (first | rw [← Ny128.out] at ho41 | (simp only [Int.reduceToNat] at ho41; rw [← Ny128.out] at ho41)); have n0_ := Aside0.mk (Kd.R_elder' (by (with_reducible repeat (first | apply Kd.R_alloc | apply Kd.R_drewN | apply Kd.R_drew)); exact (Kd.R_mono (Kd.R_mono (Kd.R_far (p := ⟨gb127, 1, none⟩) (Kd.R_far (p := ⟨gb127, 0, none⟩) (Kd.R_far (p := ⟨gb126, 1, none⟩) (Kd.R_far (p := ⟨gb126, 0, none⟩) (Kd.R_types (Kd.R_types HO_3.out BK126.out (by decide)) BK127.out (by decide)) (fun _ hk => hk.1.2) (.int .u64 t121)) (fun _ hk => hk.1.2) (.int .u64 t122)) (fun _ hk => hk.2) (.int .u64 t123)) (fun _ hk => hk.2) (.int .u64 t124)) (fun _ h_ => h_.1)) (fun _ h_ => h_.1))) (Kd.R_base ho41) hb); have n1_ := Aside0.mk (Kd.R_lower (Kd.R_new' ho41 (Kd.R_lt (by (with_reducible repeat (first | apply Kd.R_alloc | apply Kd.R_drewN | apply Kd.R_drew)); exact (Kd.R_mono (Kd.R_mono (Kd.R_far (p := ⟨gb127, 1, none⟩) (Kd.R_far (p := ⟨gb127, 0, none⟩) (Kd.R_far (p := ⟨gb126, 1, none⟩) (Kd.R_far (p := ⟨gb126, 0, none⟩) (Kd.R_types (Kd.R_types HO_3.out BK126.out (by decide)) BK127.out (by decide)) (fun _ hk => hk.1.2) (.int .u64 t121)) (fun _ hk => hk.1.2) (.int .u64 t122)) (fun _ hk => hk.2) (.int .u64 t123)) (fun _ hk => hk.2) (.int .u64 t124)) (fun _ h_ => h_.1)) (fun _ h_ => h_.1))))) (below_size (bW HB.out))); have n2_ := Aside0.mk (blk_below (g := gb118) (o := .cells #[.int .u64 x119000_1, .int .u64 x119001_1] 24 (0, 0)) (by (with_reducible repeat (first | refine blk_drewN ?_ _ | refine blk_drew ?_ | refine blk_alloc ?_ _)); refine blk_far ?_ NB118_127.out _; (with_reducible repeat (first | refine blk_drewN ?_ _ | refine blk_drew ?_ | refine blk_alloc ?_ _)); refine blk_far ?_ NB118_127.out _; (with_reducible repeat (first | refine blk_drewN ?_ _ | refine blk_drew ?_ | refine blk_alloc ?_ _)); refine blk_far ?_ NB118_126.out _; (with_reducible repeat (first | refine blk_drewN ?_ _ | refine blk_drew ?_ | refine blk_alloc ?_ _)); refine blk_far ?_ NB118_126.out _; (with_reducible repeat (first | refine blk_drewN ?_ _ | refine blk_drew ?_ | refine blk_alloc ?_ _)); exact BK118.out) hb); have n3_ := Aside0.mk (blk_below (g := gb126) (o := .cells #[.int .u64 t121, .int .u64 t122] 24 (0, 0)) (by (with_reducible repeat (first | refine blk_drewN ?_ _ | refine blk_drew ?_ | refine blk_alloc ?_ _)); refine blk_far ?_ NB126_127.out _; (with_reducible repeat (first | refine blk_drewN ?_ _ | refine blk_drew ?_ | refine blk_alloc ?_ _)); refine blk_far ?_ NB126_127.out _; (with_reducible repeat (first | refine blk_drewN ?_ _ | refine blk_drew ?_ | refine blk_alloc ?_ _)); refine blk_put (cs := #[.int .u64 t121, .int .u64 0]) ?_ 1 _ rfl; (with_reducible repeat (first | refine blk_drewN ?_ _ | refine blk_drew ?_ | refine blk_alloc ?_ _)); refine blk_put (cs := #[.int .u64 0, .int .u64 0]) ?_ 0 _ rfl; (with_reducible repeat (first | refine blk_drewN ?_ _ | refine blk_drew ?_ | refine blk_alloc ?_ _)); exact BK126.out) hb); have n4_ := Aside0.mk (blk_below (g := gb127) (o := .cells #[.int .u64 t123, .int .u64 t124] 24 (0, 0)) (by (with_reducible repeat (first | refine blk_drewN ?_ _ | refine blk_drew ?_ | refine blk_alloc ?_ _)); refine blk_put (cs := #[.int .u64 t123, .int .u64 0]) ?_ 1 _ rfl; (with_reducible repeat (first | refine blk_drewN ?_ _ | refine blk_drew ?_ | refine blk_alloc ?_ _)); refine blk_put (cs := #[.int .u64 0, .int .u64 0]) ?_ 0 _ rfl; (with_reducible repeat (first | refine blk_drewN ?_ _ | refine blk_drew ?_ | refine blk_alloc ?_ _)); refine blk_far ?_ NB127_126.out _; (with_reducible repeat (first | refine blk_drewN ?_ _ | refine blk_drew ?_ | refine blk_alloc ?_ _)); refine blk_far ?_ NB127_126.out _; (with_reducible repeat (first | refine blk_drewN ?_ _ | refine blk_drew ?_ | refine blk_alloc ?_ _)); exact BK127.out) hb); have n5_ := Aside0.mk (below_step (bW HB.out) hb); clear HO_3 BK118 BK126 BK127 HB; have HO_3 := n0_; have HO130 := n1_; have BK118 := n2_; have BK126 := n3_; have BK127 := n4_; have HB := n5_; clear n0_ n1_ n2_ n3_ n4_ n5_ hb ho41; obtain ⟨Ao43, co43, eo43⟩ := Kd.R_slice HO_3.out; subst eo43) | ((with_reducible refine gate_builtin (b := .append) (xs := #[.tmp 18, .tmp 19]) rfl ?_); at_builtin; refine Kd.R_append_rows (Kd.int .u8) (w0 := w) w.heap.size rfl (.tmp 18) (.tmp 19) 40 5 (.int .u8 0) 1 rfl Try.underlying40 info5 rfl (by decide) (by omega) v129 y128 x3_1 _ _ _ (fun k_ => some k_ ≠ (.slice Ao43 x3_1.length co43 : Value).ownBlock) (fun _ => False) rfl rfl ?aO ?aR (fun _ _ h => h) (fun _ h => h.elim) ?aF ?aB ?aS ?aL ?_; (case aR => repeat (first | exact (Kd.R_reads' HO_3.out).2.2 | (with_reducible refine Kd.C_alloc ?_ _) | (with_reducible refine Kd.C_drewN ?_ _) | (with_reducible refine Kd.C_drew ?_))); (case aB => exact (bW HB.out)); (case aF => exact (fun k_ hk => Kd.fresh' (Kd.R_lt (by (with_reducible repeat (first | apply Kd.R_alloc | apply Kd.R_drewN | apply Kd.R_drew)); exact HO_3.out)) k_ hk)); (case aO => exact (by (with_reducible repeat (first | apply Kd.R_alloc | apply Kd.R_drewN | apply Kd.R_drew)); exact Kd.R_mono HO130.out (fun _ hk => hk.2))); (case aS => exact (below_size (bW HB.out))); (case aL => have := LMc5.out; omega); intro v132 w42 ho hb hg hat; rw [← Ny131.out] at ho; have n0_ := Aside0.mk (Kd.R_after (ok := (fun _ => True)) (by (with_reducible repeat (first | apply Kd.R_alloc | apply Kd.R_drewN | apply Kd.R_drew)); exact HO_3.out) hg hat); have n1_ := Aside0.mk (blk_grown (bT BK118.out) hg (Kd.R_ne HO130.out BK118.out (by decide))); have n2_ := Aside0.mk (blk_grown (bT BK126.out) hg (Kd.R_ne HO130.out BK126.out (by decide))); have n3_ := Aside0.mk (blk_grown (bT BK127.out) hg (Kd.R_ne HO130.out BK127.out (by decide))); have n4_ := Aside0.mk (hb); have n5_ := Aside0.mk (ho); clear HO_3 BK118 BK126 BK127 HB HO130; have HO_3 := n0_; have BK118 := n1_; have BK126 := n2_; have BK127 := n3_; have HB := n4_; have HO133 := n5_; clear n0_ n1_ n2_ n3_ n4_ n5_ ho hb hg hat; have hnb44 := NB126_118.out; have hnc44 := NB118_126.out; have hcz45_0 : w42.cell? ⟨gb126, 0, none⟩ = some (.int .u64 t121) := (blk_cell BK126.out 0).trans rfl; have hcz45_1 : w42.cell? ⟨gb126, 1, none⟩ = some (.int .u64 t122) := (blk_cell BK126.out 1).trans rfl; have hfz45_0 := blk_frozen BK126.out 0; have hfz45_1 := blk_frozen BK126.out 1; have hcz46_0 : w42.cell? ⟨gb118, 0, none⟩ = some (.int .u64 x119000_1) := (blk_cell BK118.out 0).trans rfl; have hcz46_1 : w42.cell? ⟨gb118, 1, none⟩ = some (.int .u64 x119001_1) := (blk_cell BK118.out 1).trans rfl; have hfz46_0 := blk_frozen BK118.out 0; have hfz46_1 := blk_frozen BK118.out 1))
     go_roundg k1
     case measure => have := HK1.out; omega
     case rel => exact ⟨(y131), (t121), (t122), H', ⟨by have := HK1.out; omega⟩, ⟨by (with_reducible repeat (first | apply Kd.R_alloc | apply Kd.R_drewN | apply Kd.R_drew)); exact Kd.R_mono (Kd.R_far (p := ⟨gb118, 1, none⟩) (Kd.R_far (p := ⟨gb118, 0, none⟩) (Kd.R_types HO133.out BK118.out (by decide)) (fun _ hk => hk.2) (.int .u64 t121)) (fun _ hk => hk.2) (.int .u64 t122)) (fun _ hk => trivial)⟩, ⟨by (with_reducible repeat (first | refine blk_drewN ?_ _ | refine blk_drew ?_ | refine blk_alloc ?_ _)); refine blk_put (cs := #[.int .u64 t121, .int .u64 x119001_1]) ?_ 1 _ rfl; (with_reducible repeat (first | refine blk_drewN ?_ _ | refine blk_drew ?_ | refine blk_alloc ?_ _)); refine blk_put (cs := #[.int .u64 x119000_1, .int .u64 x119001_1]) ?_ 0 _ rfl; (with_reducible repeat (first | refine blk_drewN ?_ _ | refine blk_drew ?_ | refine blk_alloc ?_ _)); exact BK118.out⟩, ⟨by repeat (first | (with_reducible first | exact HB.out | apply below_alloc | apply pw_below_drewN | apply below_drew1 | refine below_set ?_ GE118.out | refine below_set ?_ GE126.out | refine below_set ?_ GE127.out) | exact HB.out)⟩⟩
   ·
    rw [if_neg c5] at H
    exact absurd H (by simp)
end Go.Proofs.Ytbpcehbcbcojiaa.T
