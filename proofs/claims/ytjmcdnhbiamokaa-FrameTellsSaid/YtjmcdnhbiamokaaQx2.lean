/- Walks of Go functions, each against a plain function over numbers and lists; written by this session's program printx.py over the kit's print; no condition but those that each theorem states. -/
import Derived.Test.YtjmcdnhbiamokaaQx0
namespace Go.Proofs.Ytjmcdnhbiamokaa.Q
open Go.RowKit Go.Proofs.YtjmcdnhbiamokaaW.PrintWords Go.Proofs.YtjmcdnhbiamokaaW.PrintLast Go.Proofs.YtjmcdnhbiamokaaW.PrintMore
attribute [local go_sem] max2_int min2_int max_two min_two max_three min_three max_four min_four   -- for this text's walks alone
set_option linter.unusedVariables false
set_option linter.unusedSimpArgs false

/-! ### samphireref08_Number: function 14 -/
def samphireref08_Number.l0 : Nat → Int → ByteArray → Option (ByteArray)
  | 0, _, _ => none
  | k + 1, x0, x3 => if x0 > 127 then ((some (([(IntKind.u64.wrap (128 + (Int.tmod x0 128))) % 256] : List Int) : List Int)).bind fun y130 => (if x3.size + (strOfNums y130).size ≤ 9223372036854775807 then (samphireref08_Number.l0 k (IntKind.u64.wrap (Int.tdiv x0 128)) (x3 ++ (strOfNums y130))) else (none))) else ((some (([(x0) % 256] : List Int) : List Int)).bind fun y133 => (if x3.size + (strOfNums y133).size ≤ 9223372036854775807 then (some (x3 ++ (strOfNums y133))) else (none)))
def samphireref08_Number.f (k : Nat) (a0 : Int) : Option (ByteArray) := samphireref08_Number.l0 k a0 (⟨#[]⟩ : ByteArray)
theorem samphireref08_Number.mono_l : ∀ k, (∀ y0 y1, LeO (samphireref08_Number.l0 k y0 y1) (samphireref08_Number.l0 (k + 1) y0 y1))
  | 0 => fun _ _ r h => by simp [samphireref08_Number.l0] at h
  | k + 1 => by
    have ih0 := samphireref08_Number.mono_l k
    · intro y0 y1
      unfold samphireref08_Number.l0
      repeat' first
      | (with_reducible exact ih0 _ _)
      | (with_reducible exact LeO.refl _)
      | (with_reducible exact LeO.none _)
      | (with_reducible refine LeO.ite ?_ ?_)
      | (with_reducible refine LeO.bind ?_ (fun _ => ?_))
      | exact ih0 _ _
      | exact LeO.none _
      | refine LeO.ite ?_ ?_
      | refine LeO.bind ?_ (fun _ => ?_)
theorem samphireref08_Number.mono : ∀ a0 k, LeO (samphireref08_Number.f k a0) (samphireref08_Number.f (k + 1) a0) := by
  intro a0 k
  have ih0 := samphireref08_Number.mono_l k
  unfold samphireref08_Number.f
  repeat' first
      | (with_reducible exact ih0 _ _)
      | (with_reducible exact LeO.refl _)
      | (with_reducible exact LeO.none _)
      | (with_reducible refine LeO.ite ?_ ?_)
      | (with_reducible refine LeO.bind ?_ (fun _ => ?_))
      | exact ih0 _ _
      | exact LeO.none _
      | refine LeO.ite ?_ ?_
      | refine LeO.bind ?_ (fun _ => ?_)
set_option maxHeartbeats 8000000 in
set_option maxRecDepth 100000 in
theorem samphireref08_Number.calls (k : Nat) (a0 : Int) (r : ByteArray) (w : World) (h : samphireref08_Number.f k a0 = some r) :
    Calls Try.prog 14 #[.int .u64 a0] w fun e w' => e = .returned (.string r) ∧ Below w.heap.size w w' := by
  have HB := Aside0.mk (Below.refl w.heap.size w)
  have H : (samphireref08_Number.l0 k a0 (⟨#[]⟩ : ByteArray)) = some r := h
  clear h
  have H' := Aside0.mk H
  clear H
  go_enter Try.func14, Try.ntmps14
  go_wp2
  go_loopg [0, 3] k (fun kq v0 v3 w' => ∃ (x0_1 : Int) (x3_1 : ByteArray), v0 = .int .u64 x0_1 ∧ v3 = .string x3_1 ∧ Aside0 (samphireref08_Number.l0 kq x0_1 x3_1 = some r) ∧ Aside0 (kq ≤ k) ∧ Aside0 (Below w.heap.size w w'))
  case atStart => exact ⟨(a0), ((⟨#[]⟩ : ByteArray)), (by first | rfl | (simp; done) | (simp [*]; done)), (by first | rfl | (simp; done) | (simp [*]; done)), H', ⟨Nat.le_refl _⟩, ⟨by repeat (first | (with_reducible first | exact HB.out | apply below_alloc | apply pw_below_drewN | apply below_drew1) | exact HB.out)⟩⟩
  case round =>
    clear H'
    try clear c1
    obtain ⟨x0_1, x3_1, rfl, rfl, HA, HK1, HB⟩ := hrel
    cases gk with
    | zero => exact absurd HA.out (by simp [samphireref08_Number.l0])
    | succ k1 =>
      have H := HA.out
      clear HA
      simp only [samphireref08_Number.l0] at H
      by_cases c2 : x0_1 > 127
      · rw [if_pos c2] at H
        have c2b0 : decide (127 < x0_1) = true := decide_eq_true c2
        clear c2
        obtain ⟨y130, hy130⟩ : ∃ y_ : List Int, y_ = (([(IntKind.u64.wrap (128 + (Int.tmod x0_1 128))) % 256] : List Int)) := ⟨_, rfl⟩
        replace H : (if x3_1.size + (strOfNums y130).size ≤ 9223372036854775807 then (samphireref08_Number.l0 k1 (IntKind.u64.wrap (Int.tdiv x0_1 128)) (x3_1 ++ (strOfNums y130))) else (none)) = some r := by first | (rw [hy130]; with_reducible exact H) | (have H2_ := (Option.bind_some _ _).symm.trans H; rw [hy130]; with_reducible exact H2_) | (have H2_ := (Option.bind_some _ _).symm.trans H; with_reducible exact H2_) | with_reducible exact H | (rw [hy130]; exact H) | exact H
        have Ny130 := Aside0.mk hy130
        clear hy130
        by_cases c3 : x3_1.size + (strOfNums y130).size ≤ 9223372036854775807
        · rw [if_pos c3] at H
          have c3b0 := eq_true c3
          have c3b1 : decide (x3_1.size + (strOfNums y130).size ≤ 9223372036854775807) = true := decide_eq_true c3
          try have c3b2 : (9223372036854775807 < x3_1.size + (strOfNums y130).size) = False := eq_false (Nat.not_lt.2 c3)
          have H' := Aside0.mk H
          clear H
          go_wp2_with (first | ((with_reducible refine gate_dst (N := 11) rfl ?_); refine Kd.R_lit (Kd.int .u8) _ 5 ?hg (N := 11) ?hd (xs := ([(IntKind.u64.wrap (128 + (Int.tmod x0_1 128))) % 256] : List Int)) (inner := [.int .u8 ((IntKind.u64.wrap (128 + (Int.tmod x0_1 128))) % 256)]) (ok := fun _ => True) (okp := fun _ => True) ?hr ?hp (fun _ hk => hk) trivial (Below.refl _ _) (Nat.le_refl _) (by simp) ?_; (case hd => rfl); (case hg => rfl); (case hr => first | (go_simp; done) | (go_simp; rfl)); (case hp => exact (Reps.one (show Kd.M (Kd.int .u8) _ _ _ ((IntKind.u64.wrap (128 + (Int.tmod x0_1 128))) % 256) [.int .u8 ((IntKind.u64.wrap (128 + (Int.tmod x0_1 128))) % 256)] from rfl) (Reps.none _ _))); intro v131 w4 ho5 hb hg_ hnew_; clear hg_ hnew_; (first | rw [← Ny130.out] at ho5 | (simp only [Int.reduceToNat] at ho5; rw [← Ny130.out] at ho5)); have n0_ := Aside0.mk (Kd.R_lower ho5 (below_size (by repeat (first | (with_reducible first | exact HB.out | apply below_alloc | apply pw_below_drewN | apply below_drew1) | exact HB.out)))); have n1_ := Aside0.mk (below_step (by repeat (first | (with_reducible first | exact HB.out | apply below_alloc | apply pw_below_drewN | apply below_drew1) | exact HB.out)) hb); clear HB; have HO132 := n0_; have HB := n1_; clear n0_ n1_; clear hb ho5; have hcv6 := own_string (P := Try.prog) Try.underlying36 Try.underlying5 Try.underlying9 (Kd.own_of_R HO132.out)))
          go_roundg k1
          case measure => have := HK1.out; omega
          case rel => exact ⟨(IntKind.u64.wrap (Int.tdiv x0_1 128)), (x3_1 ++ (strOfNums y130)), (by first | rfl | (simp; done) | (simp [*]; done)), (by first | rfl | (simp; done) | (simp [*]; done)), H', ⟨by have := HK1.out; omega⟩, ⟨by repeat (first | (with_reducible first | exact HB.out | apply below_alloc | apply pw_below_drewN | apply below_drew1) | exact HB.out)⟩⟩
        · rw [if_neg c3] at H
          exact absurd H (by simp)
      · rw [if_neg c2] at H
        have c2b0 : decide (127 < x0_1) = false := decide_eq_false c2
        clear c2
        obtain ⟨y133, hy133⟩ : ∃ y_ : List Int, y_ = (([(x0_1) % 256] : List Int)) := ⟨_, rfl⟩
        replace H : (if x3_1.size + (strOfNums y133).size ≤ 9223372036854775807 then (some (x3_1 ++ (strOfNums y133))) else (none)) = some r := by first | (rw [hy133]; with_reducible exact H) | (have H2_ := (Option.bind_some _ _).symm.trans H; rw [hy133]; with_reducible exact H2_) | (have H2_ := (Option.bind_some _ _).symm.trans H; with_reducible exact H2_) | with_reducible exact H | (rw [hy133]; exact H) | exact H
        have Ny133 := Aside0.mk hy133
        clear hy133
        by_cases c7 : x3_1.size + (strOfNums y133).size ≤ 9223372036854775807
        · rw [if_pos c7] at H
          have c7b0 := eq_true c7
          have c7b1 : decide (x3_1.size + (strOfNums y133).size ≤ 9223372036854775807) = true := decide_eq_true c7
          try have c7b2 : (9223372036854775807 < x3_1.size + (strOfNums y133).size) = False := eq_false (Nat.not_lt.2 c7)
          obtain rfl := Option.some.inj H
          go_wp2_with (first | ((with_reducible refine gate_dst (N := 19) rfl ?_); refine Kd.R_lit (Kd.int .u8) _ 5 ?hg (N := 19) ?hd (xs := ([(x0_1) % 256] : List Int)) (inner := [.int .u8 ((x0_1) % 256)]) (ok := fun _ => True) (okp := fun _ => True) ?hr ?hp (fun _ hk => hk) trivial (Below.refl _ _) (Nat.le_refl _) (by simp) ?_; (case hd => rfl); (case hg => rfl); (case hr => first | (go_simp; done) | (go_simp; rfl)); (case hp => exact (Reps.one (show Kd.M (Kd.int .u8) _ _ _ ((x0_1) % 256) [.int .u8 ((x0_1) % 256)] from rfl) (Reps.none _ _))); intro v134 w8 ho9 hb hg_ hnew_; clear hg_ hnew_; (first | rw [← Ny133.out] at ho9 | (simp only [Int.reduceToNat] at ho9; rw [← Ny133.out] at ho9)); have n0_ := Aside0.mk (Kd.R_lower ho9 (below_size (by repeat (first | (with_reducible first | exact HB.out | apply below_alloc | apply pw_below_drewN | apply below_drew1) | exact HB.out)))); have n1_ := Aside0.mk (below_step (by repeat (first | (with_reducible first | exact HB.out | apply below_alloc | apply pw_below_drewN | apply below_drew1) | exact HB.out)) hb); clear HB; have HO135 := n0_; have HB := n1_; clear n0_ n1_; clear hb ho9; have hcv10 := own_string (P := Try.prog) Try.underlying36 Try.underlying5 Try.underlying9 (Kd.own_of_R HO135.out)))
          go_ret
          exact ⟨by first | rfl | (simp [errW_none, errW_some] <;> rfl) | (simp [*, errW_none, errW_some] <;> rfl), by repeat (first | (with_reducible first | exact HB.out | apply below_alloc | apply pw_below_drewN | apply below_drew1) | exact HB.out)⟩
        · rw [if_neg c7] at H
          exact absurd H (by simp)

/-! ### samphireref06_More: function 23 -/
mutual
def samphireref06_More.l0 : Nat → ByteArray → Int → Int → Option (Int)
  | 0, _, _, _ => none
  | k + 1, x1, x5, x6 => if x6 < (x1.size : Int) then (if 0 ≤ x6 then (samphireref06_More.l1 k x1 (Go.bits .xor .u32 x5 ((bt x1 x6) % 4294967296)) x6 0) else (none)) else (some ((4294967295 - x5) % 4294967296))
def samphireref06_More.l1 : Nat → ByteArray → Int → Int → Int → Option (Int)
  | 0, _, _, _, _ => none
  | k + 1, x1, x5, x6, x7 => if x7 < 8 then (if (Int.tmod x5 2) = 1 then (samphireref06_More.l1 k x1 (Go.bits .xor .u32 ((Int.tdiv x5 2) % 4294967296) 2197175160) x6 (wrap64 (x7 + 1))) else (samphireref06_More.l1 k x1 ((Int.tdiv x5 2) % 4294967296) x6 (wrap64 (x7 + 1)))) else (samphireref06_More.l0 k x1 x5 (wrap64 (x6 + 1)))
end
def samphireref06_More.f (k : Nat) (a0 : Int) (a1 : ByteArray) : Option (Int) := samphireref06_More.l0 k a1 ((4294967295 - a0) % 4294967296) 0
theorem samphireref06_More.mono_l : ∀ k, (∀ y0 y1 y2, LeO (samphireref06_More.l0 k y0 y1 y2) (samphireref06_More.l0 (k + 1) y0 y1 y2)) ∧ (∀ y0 y1 y2 y3, LeO (samphireref06_More.l1 k y0 y1 y2 y3) (samphireref06_More.l1 (k + 1) y0 y1 y2 y3))
  | 0 => ⟨fun _ _ _ r h => by simp [samphireref06_More.l0] at h, fun _ _ _ _ r h => by simp [samphireref06_More.l1] at h⟩
  | k + 1 => by
    obtain ⟨ih0, ih1⟩ := samphireref06_More.mono_l k
    refine ⟨?_, ?_⟩
    · intro y0 y1 y2
      unfold samphireref06_More.l0
      repeat' first
      | (with_reducible exact ih0 _ _ _)
      | (with_reducible exact ih1 _ _ _ _)
      | (with_reducible exact LeO.refl _)
      | (with_reducible exact LeO.none _)
      | (with_reducible refine LeO.ite ?_ ?_)
      | (with_reducible refine LeO.bind ?_ (fun _ => ?_))
      | exact ih0 _ _ _
      | exact ih1 _ _ _ _
      | exact LeO.none _
      | refine LeO.ite ?_ ?_
      | refine LeO.bind ?_ (fun _ => ?_)
    · intro y0 y1 y2 y3
      unfold samphireref06_More.l1
      repeat' first
      | (with_reducible exact ih0 _ _ _)
      | (with_reducible exact ih1 _ _ _ _)
      | (with_reducible exact LeO.refl _)
      | (with_reducible exact LeO.none _)
      | (with_reducible refine LeO.ite ?_ ?_)
      | (with_reducible refine LeO.bind ?_ (fun _ => ?_))
      | exact ih0 _ _ _
      | exact ih1 _ _ _ _
      | exact LeO.none _
      | refine LeO.ite ?_ ?_
      | refine LeO.bind ?_ (fun _ => ?_)
theorem samphireref06_More.mono : ∀ a0 a1 k, LeO (samphireref06_More.f k a0 a1) (samphireref06_More.f (k + 1) a0 a1) := by
  intro a0 a1 k
  obtain ⟨ih0, ih1⟩ := samphireref06_More.mono_l k
  unfold samphireref06_More.f
  repeat' first
      | (with_reducible exact ih0 _ _ _)
      | (with_reducible exact ih1 _ _ _ _)
      | (with_reducible exact LeO.refl _)
      | (with_reducible exact LeO.none _)
      | (with_reducible refine LeO.ite ?_ ?_)
      | (with_reducible refine LeO.bind ?_ (fun _ => ?_))
      | exact ih0 _ _ _
      | exact ih1 _ _ _ _
      | exact LeO.none _
      | refine LeO.ite ?_ ?_
      | refine LeO.bind ?_ (fun _ => ?_)
set_option maxHeartbeats 8000000 in
set_option maxRecDepth 100000 in
theorem samphireref06_More.calls (k : Nat) (a0 : Int) (a1 : ByteArray) (r : Int) (w : World) (h : samphireref06_More.f k a0 a1 = some r) :
    Calls Try.prog 23 #[.int .u32 a0, .string a1] w fun e w' => e = .returned (.int .u32 r) ∧ Drawn0 w w' := by
  have H : (samphireref06_More.l0 k a1 ((4294967295 - a0) % 4294967296) 0) = some r := h
  clear h
  have H' := Aside0.mk H
  clear H
  go_enter Try.func23, Try.ntmps23
  go_wp2
  go_loopg [5, 6] k (fun kq v5 v6 w' => ∃ (x5_1 : Int) (x6_1 : Int), v5 = .int .u32 x5_1 ∧ v6 = .int .i64 x6_1 ∧ Aside0 (samphireref06_More.l0 kq a1 x5_1 x6_1 = some r) ∧ Aside0 (kq ≤ k) ∧ Drawn0 w w')
  case atStart => exact ⟨((4294967295 - a0) % 4294967296), (0), (by first | rfl | (simp; done) | (simp [*]; done)), (by first | rfl | (simp; done) | (simp [*]; done)), H', ⟨Nat.le_refl _⟩, by repeat (first | exact Drawn0.refl _ | apply Drawn0.step)⟩
  case round =>
    clear H'
    try clear c2
    try clear p2
    obtain ⟨x5_1, x6_1, rfl, rfl, HA, HK1, ⟨m1, rfl⟩⟩ := hrel
    cases gk with
    | zero => exact absurd HA.out (by simp [samphireref06_More.l0])
    | succ k1 =>
      have H := HA.out
      clear HA
      simp only [samphireref06_More.l0] at H
      by_cases c3 : x6_1 < (a1.size : Int)
      · rw [if_pos c3] at H
        have c3b0 : decide (x6_1 < (a1.size : Int)) = true := decide_eq_true c3
        clear c3
        by_cases c4 : 0 ≤ x6_1
        · rw [if_pos c4] at H
          have c4b0 : decide (0 ≤ x6_1) = true := decide_eq_true c4
          clear c4
          have H' := Aside0.mk H
          clear H
          have p5 : 0 ≤ (x6_1 : Int) := of_decide_eq_true (by first | (with_reducible assumption) | assumption)
          have q5 : x6_1 < (a1.size : Int) := of_decide_eq_true (by first | (with_reducible assumption) | assumption)
          have hx5 := bt_at a1 x6_1
          replace p5 := eq_true p5
          replace q5 := eq_true q5
          go_wp2
          go_loopg [5, 7] k1 (fun kq v5 v7 w' => ∃ (x5_2 : Int) (x7_2 : Int), v5 = .int .u32 x5_2 ∧ v7 = .int .i64 x7_2 ∧ Aside0 (samphireref06_More.l1 kq a1 x5_2 x6_1 x7_2 = some r) ∧ Aside0 (kq ≤ k1) ∧ Drawn0 w w')
          case atStart => exact ⟨(Go.bits .xor .u32 x5_1 ((bt a1 x6_1) % 4294967296)), (0), (by first | rfl | (simp; done) | (simp [*]; done)), (by first | rfl | (simp; done) | (simp [*]; done)), H', ⟨Nat.le_refl _⟩, by repeat (first | exact Drawn0.refl _ | apply Drawn0.step)⟩
          case round =>
            clear H'
            try clear c2
            try clear p2
            try clear c3
            try clear c3b0
            try clear c4
            try clear c4b0
            try clear p5
            try clear q5
            try clear hx5
            try clear p2
            try clear p5
            try clear q5
            obtain ⟨x5_2, x7_2, rfl, rfl, HA, HK2, ⟨m2, rfl⟩⟩ := hrel
            cases gk with
            | zero => exact absurd HA.out (by simp [samphireref06_More.l1])
            | succ k2 =>
              have H := HA.out
              clear HA
              simp only [samphireref06_More.l1] at H
              by_cases c6 : x7_2 < 8
              · rw [if_pos c6] at H
                have c6b0 : decide (x7_2 < 8) = true := decide_eq_true c6
                clear c6
                by_cases c7 : (Int.tmod x5_2 2) = 1
                · rw [if_pos c7] at H
                  have c7b0 : ((Int.tmod x5_2 2) == 1) = true := beq_iff_eq.mpr c7
                  have c7b1 : ((Int.tmod x5_2 2) != 1) = false := bne_eq_false_iff_eq.mpr c7
                  clear c7
                  have H' := Aside0.mk H
                  clear H
                  go_wp2
                  go_roundg k2
                  case measure => have := HK1.out; have := HK2.out; omega
                  case rel => exact ⟨(Go.bits .xor .u32 ((Int.tdiv x5_2 2) % 4294967296) 2197175160), (wrap64 (x7_2 + 1)), (by first | rfl | (simp; done) | (simp [*]; done)), (by first | rfl | (simp; done) | (simp [*]; done)), H', ⟨by have := HK1.out; have := HK2.out; omega⟩, by repeat (first | exact Drawn0.refl _ | apply Drawn0.step)⟩
                · rw [if_neg c7] at H
                  have c7b0 : ((Int.tmod x5_2 2) == 1) = false := beq_eq_false_iff_ne.mpr c7
                  have c7b1 : ((Int.tmod x5_2 2) != 1) = true := bne_iff_ne.mpr c7
                  have H' := Aside0.mk H
                  clear H
                  go_wp2
                  go_roundg k2
                  case measure => have := HK1.out; have := HK2.out; omega
                  case rel => exact ⟨((Int.tdiv x5_2 2) % 4294967296), (wrap64 (x7_2 + 1)), (by first | rfl | (simp; done) | (simp [*]; done)), (by first | rfl | (simp; done) | (simp [*]; done)), H', ⟨by have := HK1.out; have := HK2.out; omega⟩, by repeat (first | exact Drawn0.refl _ | apply Drawn0.step)⟩
              · rw [if_neg c6] at H
                have c6b0 : decide (x7_2 < 8) = false := decide_eq_false c6
                clear c6
                have H' := Aside0.mk H
                clear H
                go_wp2
                go_roundg k2
                case measure => have := HK1.out; have := HK2.out; omega
                case rel => exact ⟨(x5_2), (wrap64 (x6_1 + 1)), (by first | rfl | (simp; done) | (simp [*]; done)), (by first | rfl | (simp; done) | (simp [*]; done)), H', ⟨by have := HK1.out; have := HK2.out; omega⟩, by repeat (first | exact Drawn0.refl _ | apply Drawn0.step)⟩
        · rw [if_neg c4] at H
          exact absurd H (by simp)
      · rw [if_neg c3] at H
        have c3b0 : decide (x6_1 < (a1.size : Int)) = false := decide_eq_false c3
        clear c3
        obtain rfl := Option.some.inj H
        go_wp2
        go_ret
        exact ⟨by first | rfl | (simp; done) | (simp [*]; done), by repeat (first | exact Drawn0.refl _ | apply Drawn0.step)⟩

/-! ### samphireref09_sum: function 17 -/
def samphireref09_sum.f (k : Nat) (a0 : ByteArray) : Option (ByteArray) := (samphireref06_More.f k 0 a0).bind fun t136 => (some (strOfNums (([(Int.tmod t136 256) % 256, ((Int.tdiv t136 256) % 4294967296) % 256, ((Int.tdiv t136 65536) % 4294967296) % 256, ((Int.tdiv t136 16777216) % 4294967296) % 256] : List Int))))
theorem samphireref09_sum.mono : ∀ a0 k, LeO (samphireref09_sum.f k a0) (samphireref09_sum.f (k + 1) a0) := by
  intro a0 k
  unfold samphireref09_sum.f
  repeat' first
      | (with_reducible exact samphireref06_More.mono _ _ _)
      | (with_reducible exact LeO.refl _)
      | (with_reducible exact LeO.none _)
      | (with_reducible refine LeO.ite ?_ ?_)
      | (with_reducible refine LeO.bind ?_ (fun _ => ?_))
      | exact samphireref06_More.mono _ _ _
      | exact LeO.none _
      | refine LeO.ite ?_ ?_
      | refine LeO.bind ?_ (fun _ => ?_)
set_option maxHeartbeats 8000000 in
set_option maxRecDepth 100000 in
theorem samphireref09_sum.calls (k : Nat) (a0 : ByteArray) (r : ByteArray) (w : World) (h : samphireref09_sum.f k a0 = some r) :
    Calls Try.prog 17 #[.string a0] w fun e w' => e = .returned (.string r) ∧ Below w.heap.size w w' := by
  have HB := Aside0.mk (Below.refl w.heap.size w)
  have H : ((samphireref06_More.f k 0 a0).bind fun t136 => (some (strOfNums (([(Int.tmod t136 256) % 256, ((Int.tdiv t136 256) % 4294967296) % 256, ((Int.tdiv t136 65536) % 4294967296) % 256, ((Int.tdiv t136 16777216) % 4294967296) % 256] : List Int))))) = some r := h
  clear h
  replace H := Option.bind_eq_some_iff.mp H
  obtain ⟨t136, A20, H⟩ := H
  replace H : (some (strOfNums (([(Int.tmod t136 256) % 256, ((Int.tdiv t136 256) % 4294967296) % 256, ((Int.tdiv t136 65536) % 4294967296) % 256, ((Int.tdiv t136 16777216) % 4294967296) % 256] : List Int)))) = some r := H
  have A2 := Aside0.mk A20
  clear A20
  obtain ⟨y137, hy137⟩ : ∃ y_ : List Int, y_ = (([(Int.tmod t136 256) % 256, ((Int.tdiv t136 256) % 4294967296) % 256, ((Int.tdiv t136 65536) % 4294967296) % 256, ((Int.tdiv t136 16777216) % 4294967296) % 256] : List Int)) := ⟨_, rfl⟩
  replace H : (some (strOfNums y137)) = some r := by first | (rw [hy137]; with_reducible exact H) | (have H2_ := (Option.bind_some _ _).symm.trans H; rw [hy137]; with_reducible exact H2_) | (have H2_ := (Option.bind_some _ _).symm.trans H; with_reducible exact H2_) | with_reducible exact H | (rw [hy137]; exact H) | exact H
  have Ny137 := Aside0.mk hy137
  clear hy137
  obtain rfl := Option.some.inj H
  go_enter Try.func17, Try.ntmps17
  go_wp2_with (first | ((with_reducible refine gate_callee (f := 23) rfl ?_); refine goesL_ (some 5) rfl rfl Try.func23 (by kernel_rfl) rfl #[.int .u32 0, .string a0] rfl (by (try simp only [List.map_toArray, List.map_cons, List.map_nil]); first | done | rfl | (simp only [List.length_drop, List.length_take]; rfl)) ?_; (with_reducible refine (samphireref06_More.calls k 0 a0 t136 _ A2.out).mono ?_); rintro e w' ⟨rfl, ⟨nd, rfl⟩⟩; refine ⟨_, rfl, ?_⟩) | ((with_reducible refine gate_dst (N := 20) rfl ?_); refine Kd.R_lit (Kd.int .u8) _ 5 ?hg (N := 20) ?hd (xs := ([(Int.tmod t136 256) % 256, ((Int.tdiv t136 256) % 4294967296) % 256, ((Int.tdiv t136 65536) % 4294967296) % 256, ((Int.tdiv t136 16777216) % 4294967296) % 256] : List Int)) (inner := [.int .u8 ((Int.tmod t136 256) % 256), .int .u8 (((Int.tdiv t136 256) % 4294967296) % 256), .int .u8 (((Int.tdiv t136 65536) % 4294967296) % 256), .int .u8 (((Int.tdiv t136 16777216) % 4294967296) % 256)]) (ok := fun _ => True) (okp := fun _ => True) ?hr ?hp (fun _ hk => hk) trivial (Below.refl _ _) (Nat.le_refl _) (by simp) ?_; (case hd => rfl); (case hg => rfl); (case hr => first | (go_simp; done) | (go_simp; rfl)); (case hp => exact (Reps.one (show Kd.M (Kd.int .u8) _ _ _ ((Int.tmod t136 256) % 256) [.int .u8 ((Int.tmod t136 256) % 256)] from rfl) (Reps.one (show Kd.M (Kd.int .u8) _ _ _ (((Int.tdiv t136 256) % 4294967296) % 256) [.int .u8 (((Int.tdiv t136 256) % 4294967296) % 256)] from rfl) (Reps.one (show Kd.M (Kd.int .u8) _ _ _ (((Int.tdiv t136 65536) % 4294967296) % 256) [.int .u8 (((Int.tdiv t136 65536) % 4294967296) % 256)] from rfl) (Reps.one (show Kd.M (Kd.int .u8) _ _ _ (((Int.tdiv t136 16777216) % 4294967296) % 256) [.int .u8 (((Int.tdiv t136 16777216) % 4294967296) % 256)] from rfl) (Reps.none _ _)))))); intro v138 w3 ho4 hb hg_ hnew_; clear hg_ hnew_; (first | rw [← Ny137.out] at ho4 | (simp only [Int.reduceToNat] at ho4; rw [← Ny137.out] at ho4)); have n0_ := Aside0.mk (Kd.R_lower ho4 (below_size (by repeat (first | (with_reducible first | exact HB.out | apply below_alloc | apply pw_below_drewN | apply below_drew1) | exact HB.out)))); have n1_ := Aside0.mk (below_step (by repeat (first | (with_reducible first | exact HB.out | apply below_alloc | apply pw_below_drewN | apply below_drew1) | exact HB.out)) hb); clear HB; have HO139 := n0_; have HB := n1_; clear n0_ n1_; clear hb ho4; have hcv5 := own_string (P := Try.prog) Try.underlying36 Try.underlying5 Try.underlying9 (Kd.own_of_R HO139.out)))
  go_ret
  exact ⟨by first | rfl | (simp [errW_none, errW_some] <;> rfl) | (simp [*, errW_none, errW_some] <;> rfl), by repeat (first | (with_reducible first | exact HB.out | apply below_alloc | apply pw_below_drewN | apply below_drew1) | exact HB.out)⟩

/-! ### samphireref09_Seal: function 11 -/
def samphireref09_Seal.j0 : Nat → Int → ByteArray → Bool → Option (ByteArray × Int)
  | 0, _, _, _ => none
  | k + 1, x0, x1, x12 => if x12 = true then (some ((⟨#[]⟩ : ByteArray), 1)) else (if (x1.size : Int) > 65536 then (some ((⟨#[]⟩ : ByteArray), 5)) else ((some (([1, (x0) % 256] : List Int) : List Int)).bind fun y140 => (if 4 + (strOfNums y140).size ≤ 9223372036854775807 then ((samphireref08_Number.f k (IntKind.u64.wrap ((x1.size : Int)))).bind fun t143 => (if ((⟨#[83, 77, 80, 72]⟩ : ByteArray) ++ (strOfNums y140)).size + t143.size ≤ 9223372036854775807 then (if (((⟨#[83, 77, 80, 72]⟩ : ByteArray) ++ (strOfNums y140)) ++ t143).size + x1.size ≤ 9223372036854775807 then ((samphireref09_sum.f k ((((⟨#[83, 77, 80, 72]⟩ : ByteArray) ++ (strOfNums y140)) ++ t143) ++ x1)).bind fun t144 => (if ((((⟨#[83, 77, 80, 72]⟩ : ByteArray) ++ (strOfNums y140)) ++ t143) ++ x1).size + t144.size ≤ 9223372036854775807 then (some (((((⟨#[83, 77, 80, 72]⟩ : ByteArray) ++ (strOfNums y140)) ++ t143) ++ x1) ++ t144, 0)) else (none))) else (none)) else (none))) else (none))))
def samphireref09_Seal.f (k : Nat) (a0 : Int) (a1 : ByteArray) : Option (ByteArray × Int) := if a0 < 1 then (samphireref09_Seal.j0 k a0 a1 true) else (samphireref09_Seal.j0 k a0 a1 (decide (a0 > 8)))
theorem samphireref09_Seal.mono_l : ∀ k, (∀ y0 y1 y2, LeO (samphireref09_Seal.j0 k y0 y1 y2) (samphireref09_Seal.j0 (k + 1) y0 y1 y2))
  | 0 => fun _ _ _ r h => by simp [samphireref09_Seal.j0] at h
  | k + 1 => by
    have ih0 := samphireref09_Seal.mono_l k
    · intro y0 y1 y2
      unfold samphireref09_Seal.j0
      repeat' first
      | (with_reducible exact ih0 _ _ _)
      | (with_reducible exact samphireref08_Number.mono _ _)
      | (with_reducible exact samphireref09_sum.mono _ _)
      | (with_reducible exact LeO.refl _)
      | (with_reducible exact LeO.none _)
      | (with_reducible refine LeO.ite ?_ ?_)
      | (with_reducible refine LeO.bind ?_ (fun _ => ?_))
      | exact ih0 _ _ _
      | exact samphireref08_Number.mono _ _
      | exact samphireref09_sum.mono _ _
      | exact LeO.none _
      | refine LeO.ite ?_ ?_
      | refine LeO.bind ?_ (fun _ => ?_)
theorem samphireref09_Seal.mono : ∀ a0 a1 k, LeO (samphireref09_Seal.f k a0 a1) (samphireref09_Seal.f (k + 1) a0 a1) := by
  intro a0 a1 k
  have ih0 := samphireref09_Seal.mono_l k
  unfold samphireref09_Seal.f
  repeat' first
      | (with_reducible exact ih0 _ _ _)
      | (with_reducible exact samphireref08_Number.mono _ _)
      | (with_reducible exact samphireref09_sum.mono _ _)
      | (with_reducible exact LeO.refl _)
      | (with_reducible exact LeO.none _)
      | (with_reducible refine LeO.ite ?_ ?_)
      | (with_reducible refine LeO.bind ?_ (fun _ => ?_))
      | exact ih0 _ _ _
      | exact samphireref08_Number.mono _ _
      | exact samphireref09_sum.mono _ _
      | exact LeO.none _
      | refine LeO.ite ?_ ?_
      | refine LeO.bind ?_ (fun _ => ?_)
def samphireref09_Seal.T5 : Bool × List (List Nat × List Nat) := (true, [([], []), ([0], [0]), ([1], [1]), ([2], [2]), ([3], [3]), ([], []), ([5], [5]), ([6], [6]), ([7], [7]), ([4, 8], [4, 8]), ([], []), ([9, 10], [9, 10]), ([11, 8, 0, 1, 2, 3, 4, 5, 6, 7, 8, 9, 10, 11], [11])])
def samphireref09_Seal.B5 : List Nat := [0, 1, 3, 7, 15, 0, 32, 96, 224, 511, 0, 2047, 4095]
theorem samphireref09_Seal.tab5 : rtab .any (opsOf Try.f11 5) = samphireref09_Seal.T5 := by kernel_rfl
theorem samphireref09_Seal.bits5 : waitsOk samphireref09_Seal.T5.2 samphireref09_Seal.B5 = true := by kernel_rfl
set_option maxHeartbeats 8000000 in
set_option maxRecDepth 100000 in
theorem samphireref09_Seal.calls (k : Nat) (a0 : Int) (a1 : ByteArray) (r1 : ByteArray) (r2 : Int) (w : World) (h : samphireref09_Seal.f k a0 a1 = some (r1, r2)) :
    Calls Try.prog 11 #[.int .i64 a0, .string a1] w fun e w' => e = .returned (.tuple #[.string r1, .int .i64 r2]) ∧ Below w.heap.size w w' := by
  have HB := Aside0.mk (Below.refl w.heap.size w)
  have H : (if a0 < 1 then (samphireref09_Seal.j0 k a0 a1 true) else (samphireref09_Seal.j0 k a0 a1 (decide (a0 > 8)))) = some (r1, r2) := h
  clear h
  have HC3 := Aside0.mk H
  clear H
  go_enter Try.func11, Try.ntmps11
  go_upto_region 1 with (fail)
  go_cut [12] (fun v12 wc => ∃ (kq : Nat) (x12_2 : Bool), v12 = .bool x12_2 ∧ Aside0 (samphireref09_Seal.j0 kq a0 a1 x12_2 = some (r1, r2)) ∧ Aside0 (kq ≤ k) ∧ Aside0 (Below w.heap.size w wc))
  case first =>
    have H := HC3.out
    clear HC3
    by_cases c4 : a0 < 1
    · rw [if_pos c4] at H
      have c4b0 : decide (a0 < 1) = true := decide_eq_true c4
      clear c4
      (first | rw [c4b0] | (simp only [i64_w, i32_w]; rw [c4b0]) | skip)
      have H' := Aside0.mk H
      clear H
      go_wp2
      go_meet
      case rel => exact ⟨_, (true), (by first | rfl | (simp; done) | (simp [*]; done)), H', ⟨by first | omega | exact Nat.le_refl _⟩, ⟨by repeat (first | (with_reducible first | exact HB.out | apply below_alloc | apply pw_below_drewN | apply below_drew1) | exact HB.out)⟩⟩
    · rw [if_neg c4] at H
      have c4b0 : decide (a0 < 1) = false := decide_eq_false c4
      clear c4
      (first | rw [c4b0] | (simp only [i64_w, i32_w]; rw [c4b0]) | skip)
      have H' := Aside0.mk H
      clear H
      go_wp2
      go_meet
      case rel => exact ⟨_, (decide (a0 > 8)), (by first | rfl | (simp; done) | (simp [*]; done)), H', ⟨by first | omega | exact Nat.le_refl _⟩, ⟨by repeat (first | (with_reducible first | exact HB.out | apply below_alloc | apply pw_below_drewN | apply below_drew1) | exact HB.out)⟩⟩
  case rest =>
    clear HC3
    try clear c1
    try clear p2
    try clear c4
    try clear c4b0
    obtain ⟨kq, x12_2, rfl, HA, HJ2, HB⟩ := hcut
    cases kq with
    | zero => exact absurd HA.out (by simp [samphireref09_Seal.j0])
    | succ kj2 =>
      have H := HA.out
      clear HA
      simp only [samphireref09_Seal.j0] at H
      by_cases c5 : x12_2 = true
      · subst c5
        have H1 : (some ((⟨#[]⟩ : ByteArray), 1)) = some (r1, r2) := by rw [if_pos rfl] at H; exact H
        clear H
        have H := H1
        clear H1
        simp only [Option.some.injEq, Prod.mk.injEq] at H
        obtain ⟨rfl, rfl⟩ := H
        go_wp2
        go_ret2
        exact ⟨by first | rfl | (simp [errW_none, errW_some] <;> rfl) | (simp [*, errW_none, errW_some] <;> rfl), by repeat (first | (with_reducible first | exact HB.out | apply below_alloc | apply pw_below_drewN | apply below_drew1) | exact HB.out)⟩
      · replace c5 := Bool.eq_false_iff.mpr c5
        subst c5
        have H1 : (if (a1.size : Int) > 65536 then (some ((⟨#[]⟩ : ByteArray), 5)) else ((some (([1, (a0) % 256] : List Int) : List Int)).bind fun y140 => (if 4 + (strOfNums y140).size ≤ 9223372036854775807 then ((samphireref08_Number.f kj2 (IntKind.u64.wrap ((a1.size : Int)))).bind fun t143 => (if ((⟨#[83, 77, 80, 72]⟩ : ByteArray) ++ (strOfNums y140)).size + t143.size ≤ 9223372036854775807 then (if (((⟨#[83, 77, 80, 72]⟩ : ByteArray) ++ (strOfNums y140)) ++ t143).size + a1.size ≤ 9223372036854775807 then ((samphireref09_sum.f kj2 ((((⟨#[83, 77, 80, 72]⟩ : ByteArray) ++ (strOfNums y140)) ++ t143) ++ a1)).bind fun t144 => (if ((((⟨#[83, 77, 80, 72]⟩ : ByteArray) ++ (strOfNums y140)) ++ t143) ++ a1).size + t144.size ≤ 9223372036854775807 then (some (((((⟨#[83, 77, 80, 72]⟩ : ByteArray) ++ (strOfNums y140)) ++ t143) ++ a1) ++ t144, 0)) else (none))) else (none)) else (none))) else (none)))) = some (r1, r2) := by rw [if_neg (show ¬ (false = true) by decide)] at H; exact H
        clear H
        have H := H1
        clear H1
        by_cases c6 : (a1.size : Int) > 65536
        · rw [if_pos c6] at H
          have c6b0 : decide (65536 < (a1.size : Int)) = true := decide_eq_true c6
          have c6b1 : decide (65536 < a1.size) = true := decide_eq_true (by omega)
          clear c6
          simp only [Option.some.injEq, Prod.mk.injEq] at H
          obtain ⟨rfl, rfl⟩ := H
          go_wp2
          go_ret2
          exact ⟨by first | rfl | (simp [errW_none, errW_some] <;> rfl) | (simp [*, errW_none, errW_some] <;> rfl), by repeat (first | (with_reducible first | exact HB.out | apply below_alloc | apply pw_below_drewN | apply below_drew1) | exact HB.out)⟩
        · rw [if_neg c6] at H
          have c6b0 : decide (65536 < (a1.size : Int)) = false := decide_eq_false c6
          have c6b1 : decide (65536 < a1.size) = false := decide_eq_false (by omega)
          clear c6
          obtain ⟨y140, hy140⟩ : ∃ y_ : List Int, y_ = (([1, (a0) % 256] : List Int)) := ⟨_, rfl⟩
          replace H : (if 4 + (strOfNums y140).size ≤ 9223372036854775807 then ((samphireref08_Number.f kj2 (IntKind.u64.wrap ((a1.size : Int)))).bind fun t143 => (if ((⟨#[83, 77, 80, 72]⟩ : ByteArray) ++ (strOfNums y140)).size + t143.size ≤ 9223372036854775807 then (if (((⟨#[83, 77, 80, 72]⟩ : ByteArray) ++ (strOfNums y140)) ++ t143).size + a1.size ≤ 9223372036854775807 then ((samphireref09_sum.f kj2 ((((⟨#[83, 77, 80, 72]⟩ : ByteArray) ++ (strOfNums y140)) ++ t143) ++ a1)).bind fun t144 => (if ((((⟨#[83, 77, 80, 72]⟩ : ByteArray) ++ (strOfNums y140)) ++ t143) ++ a1).size + t144.size ≤ 9223372036854775807 then (some (((((⟨#[83, 77, 80, 72]⟩ : ByteArray) ++ (strOfNums y140)) ++ t143) ++ a1) ++ t144, 0)) else (none))) else (none)) else (none))) else (none)) = some (r1, r2) := by first | (rw [hy140]; with_reducible exact H) | (have H2_ := (Option.bind_some _ _).symm.trans H; rw [hy140]; with_reducible exact H2_) | (have H2_ := (Option.bind_some _ _).symm.trans H; with_reducible exact H2_) | with_reducible exact H | (rw [hy140]; exact H) | exact H
          have Ny140 := Aside0.mk hy140
          clear hy140
          by_cases c7 : 4 + (strOfNums y140).size ≤ 9223372036854775807
          · rw [if_pos c7] at H
            have c7b0 := eq_true c7
            have c7b1 : decide (4 + (strOfNums y140).size ≤ 9223372036854775807) = true := decide_eq_true c7
            try have c7b2 : (9223372036854775807 < 4 + (strOfNums y140).size) = False := eq_false (Nat.not_lt.2 c7)
            replace H := Option.bind_eq_some_iff.mp H
            obtain ⟨t143, A80, H⟩ := H
            replace H : (if ((⟨#[83, 77, 80, 72]⟩ : ByteArray) ++ (strOfNums y140)).size + t143.size ≤ 9223372036854775807 then (if (((⟨#[83, 77, 80, 72]⟩ : ByteArray) ++ (strOfNums y140)) ++ t143).size + a1.size ≤ 9223372036854775807 then ((samphireref09_sum.f kj2 ((((⟨#[83, 77, 80, 72]⟩ : ByteArray) ++ (strOfNums y140)) ++ t143) ++ a1)).bind fun t144 => (if ((((⟨#[83, 77, 80, 72]⟩ : ByteArray) ++ (strOfNums y140)) ++ t143) ++ a1).size + t144.size ≤ 9223372036854775807 then (some (((((⟨#[83, 77, 80, 72]⟩ : ByteArray) ++ (strOfNums y140)) ++ t143) ++ a1) ++ t144, 0)) else (none))) else (none)) else (none)) = some (r1, r2) := H
            have A8 := Aside0.mk A80
            clear A80
            by_cases c9 : ((⟨#[83, 77, 80, 72]⟩ : ByteArray) ++ (strOfNums y140)).size + t143.size ≤ 9223372036854775807
            · rw [if_pos c9] at H
              have c9b0 := eq_true c9
              have c9b1 : decide (((⟨#[83, 77, 80, 72]⟩ : ByteArray) ++ (strOfNums y140)).size + t143.size ≤ 9223372036854775807) = true := decide_eq_true c9
              try have c9b2 : (9223372036854775807 < ((⟨#[83, 77, 80, 72]⟩ : ByteArray) ++ (strOfNums y140)).size + t143.size) = False := eq_false (Nat.not_lt.2 c9)
              try have c9b4 : (9223372036854775807 < 4 + (strOfNums y140).size + t143.size) = False := eq_false (Nat.not_lt.2 (by (have h_ := c9; (repeat rw [ByteArray.size_append] at h_); exact h_)))
              try have c9b5 := c9b4
              by_cases c10 : (((⟨#[83, 77, 80, 72]⟩ : ByteArray) ++ (strOfNums y140)) ++ t143).size + a1.size ≤ 9223372036854775807
              · rw [if_pos c10] at H
                have c10b0 := eq_true c10
                have c10b1 : decide ((((⟨#[83, 77, 80, 72]⟩ : ByteArray) ++ (strOfNums y140)) ++ t143).size + a1.size ≤ 9223372036854775807) = true := decide_eq_true c10
                try have c10b2 : (9223372036854775807 < (((⟨#[83, 77, 80, 72]⟩ : ByteArray) ++ (strOfNums y140)) ++ t143).size + a1.size) = False := eq_false (Nat.not_lt.2 c10)
                try have c10b4 : (9223372036854775807 < 4 + (strOfNums y140).size + t143.size + a1.size) = False := eq_false (Nat.not_lt.2 (by (have h_ := c10; (repeat rw [ByteArray.size_append] at h_); exact h_)))
                try have c10b5 := c10b4
                replace H := Option.bind_eq_some_iff.mp H
                obtain ⟨t144, A110, H⟩ := H
                replace H : (if ((((⟨#[83, 77, 80, 72]⟩ : ByteArray) ++ (strOfNums y140)) ++ t143) ++ a1).size + t144.size ≤ 9223372036854775807 then (some (((((⟨#[83, 77, 80, 72]⟩ : ByteArray) ++ (strOfNums y140)) ++ t143) ++ a1) ++ t144, 0)) else (none)) = some (r1, r2) := H
                have A11 := Aside0.mk A110
                clear A110
                by_cases c12 : ((((⟨#[83, 77, 80, 72]⟩ : ByteArray) ++ (strOfNums y140)) ++ t143) ++ a1).size + t144.size ≤ 9223372036854775807
                · rw [if_pos c12] at H
                  have c12b0 := eq_true c12
                  have c12b1 : decide (((((⟨#[83, 77, 80, 72]⟩ : ByteArray) ++ (strOfNums y140)) ++ t143) ++ a1).size + t144.size ≤ 9223372036854775807) = true := decide_eq_true c12
                  try have c12b2 : (9223372036854775807 < ((((⟨#[83, 77, 80, 72]⟩ : ByteArray) ++ (strOfNums y140)) ++ t143) ++ a1).size + t144.size) = False := eq_false (Nat.not_lt.2 c12)
                  try have c12b4 : (9223372036854775807 < 4 + (strOfNums y140).size + t143.size + a1.size + t144.size) = False := eq_false (Nat.not_lt.2 (by (have h_ := c12; (repeat rw [ByteArray.size_append] at h_); exact h_)))
                  try have c12b5 := c12b4
                  simp only [Option.some.injEq, Prod.mk.injEq] at H
                  obtain ⟨rfl, rfl⟩ := H
                  try go_wp2
                  have n0_ := Aside0.mk (below_drew1 HB.out)
                  clear HB
                  have HB := n0_
                  clear n0_
                  refine start_ (n := 13) (S := fun w' => True) (ds := []) #[false, false, false, false, false, false, false, false, false, false, false, false, false] (by kernel_rfl) rfl rfl trivial (fun hHeld => ?_); refine with_tabW samphireref09_Seal.tab5 samphireref09_Seal.bits5 (fun HT_ HW_ => ?_)
                  generalize wc.drew = w13 at HB hHeld ⊢
                  refine pure_ (i := 0) (N := some 16) (v := ?_) (a' := ?_) #[true, false, false, false, false, false, false, false, false, false, false, false, false] rfl rfl (any_of HT_.out (by kernel_rfl)) (fun _ _ _ h => h) (Or.inl ⟨by rfl, ?_⟩) ?_ ?_
                  rotate_left
                  · intro w'
                    go_simp
                    with_reducible rfl
                  rotate_left
                  · simp only [Act.put, List.setIfInBounds_toArray, List.set_cons_zero, List.set_cons_succ, i64_w, i32_w]
                    rfl
                  refine pure_ (i := 1) (N := some 17) (v := ?_) (a' := ?_) #[true, true, false, false, false, false, false, false, false, false, false, false, false] rfl rfl (any_of HT_.out (by kernel_rfl)) (fun _ _ _ h => h) (Or.inl ⟨by rfl, ?_⟩) ?_ ?_
                  rotate_left
                  · intro w'
                    go_simp
                    with_reducible rfl
                  rotate_left
                  · simp only [Act.put, List.setIfInBounds_toArray, List.set_cons_zero, List.set_cons_succ, i64_w, i32_w]
                    rfl
                  refine pure_ (i := 5) (N := some 21) (v := ?_) (a' := ?_) #[true, true, false, false, false, true, false, false, false, false, false, false, false] rfl rfl (any_of HT_.out (by kernel_rfl)) (fun _ _ _ h => h) (Or.inl ⟨by rfl, ?_⟩) ?_ ?_
                  rotate_left
                  · intro w'
                    go_simp
                    with_reducible rfl
                  rotate_left
                  · simp only [Act.put, List.setIfInBounds_toArray, List.set_cons_zero, List.set_cons_succ, i64_w, i32_w]
                    rfl
                  refine pure_ (i := 6) (N := some 22) (v := ?_) (a' := ?_) #[true, true, false, false, false, true, true, false, false, false, false, false, false] rfl rfl (any_of HT_.out (by kernel_rfl)) (fun _ _ _ h => h) (Or.inl ⟨by rfl, ?_⟩) ?_ ?_
                  rotate_left
                  · intro w'
                    go_simp
                    with_reducible rfl
                  rotate_left
                  · simp only [Act.put, List.setIfInBounds_toArray, List.set_cons_zero, List.set_cons_succ, i64_w, i32_w]
                    rfl
                  refine pure_ (i := 7) (N := some 23) (v := ?_) (a' := ?_) #[true, true, false, false, false, true, true, true, false, false, false, false, false] rfl rfl (any_of HT_.out (by kernel_rfl)) (fun _ _ _ h => h) (Or.inl ⟨by rfl, ?_⟩) ?_ ?_
                  rotate_left
                  · intro w'
                    go_simp
                    with_reducible rfl
                  rotate_left
                  · simp only [Act.put, List.setIfInBounds_toArray, List.set_cons_zero, List.set_cons_succ, i64_w, i32_w]
                    rfl
                  refine pure_ (i := 10) (N := some 26) (v := ?_) (a' := ?_) #[true, true, false, false, false, true, true, true, false, false, true, false, false] rfl rfl (any_of HT_.out (by kernel_rfl)) (fun _ _ _ h => h) (Or.inl ⟨by rfl, ?_⟩) ?_ ?_
                  rotate_left
                  · intro w'
                    go_simp
                    with_reducible rfl
                  rotate_left
                  · simp only [Act.put, List.setIfInBounds_toArray, List.set_cons_zero, List.set_cons_succ, i64_w, i32_w]
                    rfl
                  refine join_ (σ := Value) 3 #[true, true, true, true, true, true, true, true, true, false, true, false, false] (fun s_ => [(18, s_), (19, .string (strOfNums y140)), (24, .string t143), (20, .string ((⟨#[83, 77, 80, 72]⟩ : ByteArray) ++ (strOfNums y140)))]) (fun s_ w' => (Kd.R (Kd.int .u8) 5 w' w.heap.size (fun _ => True) s_ y140) ∧ (Below w.heap.size w w')) ?_ ?_
                  rotate_left
                  · intro hCont
                    refine two_ (i := 2) (j := 8) (Ni := some 18) (Nj := some 24) #[true, true, true, false, false, true, true, true, false, false, true, false, false] #[true, true, false, false, false, true, true, true, true, false, true, false, false] rfl rfl rfl rfl (two_of HT_.out (by kernel_rfl)) (by decide) (by decide) (fun K hK => ?_) (fun K hK => ?_)
                    · skip
                      refine Kd.R_lit_step (Kd.int .u8) _ 5 ?hg (N := 18) ?hd (xs := ([1, (a0) % 256] : List Int)) (inner := [.int .u8 1, .int .u8 ((a0) % 256)]) (ok := fun _ => True) (okp := fun _ => True) ?hr ?hp (fun _ hk => hk) trivial (Below.refl _ _) (Nat.le_refl _) (by simp) ?_; (case hd => rfl); (case hg => rfl); (case hr => first | (go_simp; done) | (go_simp; rfl)); (case hp => exact (Reps.one (show Kd.M (Kd.int .u8) _ _ _ 1 [.int .u8 1] from rfl) (Reps.one (show Kd.M (Kd.int .u8) _ _ _ ((a0) % 256) [.int .u8 ((a0) % 256)] from rfl) (Reps.none _ _))))
                      intro v141 w14 ho15 hb hg_ hnew_
                      clear hg_ hnew_
                      (first | rw [← Ny140.out] at ho15 | (simp only [Int.reduceToNat] at ho15; rw [← Ny140.out] at ho15))
                      have n0_ := Aside0.mk (Kd.R_lower ho15 (below_size (by repeat (first | (with_reducible first | exact HB.out | apply below_alloc | apply pw_below_drewN | apply below_drew1) | exact HB.out))))
                      have n1_ := Aside0.mk (below_step (by repeat (first | (with_reducible first | exact HB.out | apply below_alloc | apply pw_below_drewN | apply below_drew1) | exact HB.out)) hb)
                      clear HB
                      have HO142 := n0_
                      have HB := n1_
                      clear n0_ n1_
                      clear hb ho15
                      refine hK.out _ _ trivial (fun hHeld => ?_)
                      clear hK K
                      refine norm_ (a' := ?_) ?_ ?_
                      rotate_left
                      · show Act.put _ (some 18) _ = _
                        simp only [Act.put, List.setIfInBounds_toArray, List.set_cons_zero, List.set_cons_succ, i64_w, i32_w]
                        rfl
                      refine two_ (i := 3) (j := 8) (Ni := some 19) (Nj := some 24) #[true, true, true, true, false, true, true, true, false, false, true, false, false] #[true, true, true, false, false, true, true, true, true, false, true, false, false] rfl rfl rfl rfl (two_of HT_.out (by kernel_rfl)) (by decide) (by decide) (fun K hK => ?_) (fun K hK => ?_)
                      · skip
                        have hcv16 := own_string (P := Try.prog) Try.underlying36 Try.underlying5 Try.underlying9 (Kd.own_of_R HO142.out)
                        refine value_ (w1 := ?_) (v := ?_) (by rfl) rfl ?_ ?_
                        rotate_left 2
                        · go_simp
                          constructor
                          · rfl
                          · rfl
                        clear hcv16
                        refine hK.out _ _ trivial (fun hHeld => ?_)
                        clear hK K
                        refine norm_ (a' := ?_) ?_ ?_
                        rotate_left
                        · show Act.put _ (some 19) _ = _
                          simp only [Act.put, List.setIfInBounds_toArray, List.set_cons_zero, List.set_cons_succ, i64_w, i32_w]
                          rfl
                        refine pure_ (i := 4) (N := some 20) (v := ?_) (a' := ?_) #[true, true, true, true, true, true, true, true, false, false, true, false, false] rfl rfl (any_of HT_.out (by kernel_rfl)) (fun _ _ _ h => h) (Or.inl ⟨by rfl, ?_⟩) ?_ ?_
                        rotate_left
                        · intro w'
                          go_simp
                          with_reducible rfl
                        rotate_left
                        · simp only [Act.put, List.setIfInBounds_toArray, List.set_cons_zero, List.set_cons_succ, i64_w, i32_w]
                          rfl
                        refine one_ (i := 8) (N := some 24) #[true, true, true, true, true, true, true, true, true, false, true, false, false] rfl rfl (one_of HT_.out (by kernel_rfl)) (by decide) (fun K hK => ?_)
                        refine goes_ Try.func14 (by kernel_rfl) rfl #[.int .u64 (IntKind.u64.wrap ((a1.size : Int)))] (by rfl) rfl rfl (by (try simp only [List.map_toArray, List.map_cons, List.map_nil]); first | done | rfl | (simp only [List.length_drop, List.length_take]; rfl)) ?_
                        with_reducible refine (samphireref08_Number.calls kj2 (IntKind.u64.wrap ((a1.size : Int))) t143 _ A8.out).mono ?_
                        rintro e w17 ⟨rfl, hb⟩
                        refine ⟨_, rfl, ?_⟩
                        have n0_ := Aside0.mk (Kd.R_below (by (with_reducible repeat (first | apply Kd.R_alloc | apply Kd.R_drewN | apply Kd.R_drew)); exact HO142.out) hb)
                        have n1_ := Aside0.mk (below_step (by repeat (first | (with_reducible first | exact HB.out | apply below_alloc | apply pw_below_drewN | apply below_drew1) | exact HB.out)) hb)
                        clear HO142
                        clear HB
                        have HO142 := n0_
                        have HB := n1_
                        clear n0_ n1_
                        (try clear hb)
                        (try clear hb2)
                        (try clear hk)
                        (try clear hi)
                        refine hK.out _ _ trivial (fun hHeld => ?_)
                        clear hK K
                        refine norm_ (a' := ?_) ?_ ?_
                        rotate_left
                        · show Act.put _ (some 24) _ = _
                          simp only [Act.put, List.setIfInBounds_toArray, List.set_cons_zero, List.set_cons_succ, i64_w, i32_w]
                          rfl
                        exact norm_ (by simp only [putAll, Act.put, List.setIfInBounds_toArray, List.set_cons_zero, List.set_cons_succ]) (hCont (v141) _ ⟨(by (with_reducible repeat (first | apply Kd.R_alloc | apply Kd.R_drewN | apply Kd.R_drew)); exact HO142.out), (by repeat (first | (with_reducible first | exact HB.out | apply below_alloc | apply pw_below_drewN | apply below_drew1) | exact HB.out))⟩)
                      · skip
                        refine goes_ Try.func14 (by kernel_rfl) rfl #[.int .u64 (IntKind.u64.wrap ((a1.size : Int)))] (by rfl) rfl rfl (by (try simp only [List.map_toArray, List.map_cons, List.map_nil]); first | done | rfl | (simp only [List.length_drop, List.length_take]; rfl)) ?_
                        with_reducible refine (samphireref08_Number.calls kj2 (IntKind.u64.wrap ((a1.size : Int))) t143 _ A8.out).mono ?_
                        rintro e w16 ⟨rfl, hb⟩
                        refine ⟨_, rfl, ?_⟩
                        have n0_ := Aside0.mk (Kd.R_below (by (with_reducible repeat (first | apply Kd.R_alloc | apply Kd.R_drewN | apply Kd.R_drew)); exact HO142.out) hb)
                        have n1_ := Aside0.mk (below_step (by repeat (first | (with_reducible first | exact HB.out | apply below_alloc | apply pw_below_drewN | apply below_drew1) | exact HB.out)) hb)
                        clear HO142
                        clear HB
                        have HO142 := n0_
                        have HB := n1_
                        clear n0_ n1_
                        (try clear hb)
                        (try clear hb2)
                        (try clear hk)
                        (try clear hi)
                        refine hK.out _ _ trivial (fun hHeld => ?_)
                        clear hK K
                        refine norm_ (a' := ?_) ?_ ?_
                        rotate_left
                        · show Act.put _ (some 24) _ = _
                          simp only [Act.put, List.setIfInBounds_toArray, List.set_cons_zero, List.set_cons_succ, i64_w, i32_w]
                          rfl
                        refine one_ (i := 3) (N := some 19) #[true, true, true, true, false, true, true, true, true, false, true, false, false] rfl rfl (one_of HT_.out (by kernel_rfl)) (by decide) (fun K hK => ?_)
                        have hcv17 := own_string (P := Try.prog) Try.underlying36 Try.underlying5 Try.underlying9 (Kd.own_of_R HO142.out)
                        refine value_ (w1 := ?_) (v := ?_) (by rfl) rfl ?_ ?_
                        rotate_left 2
                        · go_simp
                          constructor
                          · rfl
                          · rfl
                        clear hcv17
                        refine hK.out _ _ trivial (fun hHeld => ?_)
                        clear hK K
                        refine norm_ (a' := ?_) ?_ ?_
                        rotate_left
                        · show Act.put _ (some 19) _ = _
                          simp only [Act.put, List.setIfInBounds_toArray, List.set_cons_zero, List.set_cons_succ, i64_w, i32_w]
                          rfl
                        refine pure_ (i := 4) (N := some 20) (v := ?_) (a' := ?_) #[true, true, true, true, true, true, true, true, true, false, true, false, false] rfl rfl (any_of HT_.out (by kernel_rfl)) (fun _ _ _ h => h) (Or.inl ⟨by rfl, ?_⟩) ?_ ?_
                        rotate_left
                        · intro w'
                          go_simp
                          with_reducible rfl
                        rotate_left
                        · simp only [Act.put, List.setIfInBounds_toArray, List.set_cons_zero, List.set_cons_succ, i64_w, i32_w]
                          rfl
                        exact norm_ (by simp only [putAll, Act.put, List.setIfInBounds_toArray, List.set_cons_zero, List.set_cons_succ]) (hCont (v141) _ ⟨(by (with_reducible repeat (first | apply Kd.R_alloc | apply Kd.R_drewN | apply Kd.R_drew)); exact HO142.out), (by repeat (first | (with_reducible first | exact HB.out | apply below_alloc | apply pw_below_drewN | apply below_drew1) | exact HB.out))⟩)
                    · skip
                      refine goes_ Try.func14 (by kernel_rfl) rfl #[.int .u64 (IntKind.u64.wrap ((a1.size : Int)))] (by rfl) rfl rfl (by (try simp only [List.map_toArray, List.map_cons, List.map_nil]); first | done | rfl | (simp only [List.length_drop, List.length_take]; rfl)) ?_
                      with_reducible refine (samphireref08_Number.calls kj2 (IntKind.u64.wrap ((a1.size : Int))) t143 _ A8.out).mono ?_
                      rintro e w14 ⟨rfl, hb⟩
                      refine ⟨_, rfl, ?_⟩
                      have n0_ := Aside0.mk (below_step (by repeat (first | (with_reducible first | exact HB.out | apply below_alloc | apply pw_below_drewN | apply below_drew1) | exact HB.out)) hb)
                      clear HB
                      have HB := n0_
                      clear n0_
                      (try clear hb)
                      (try clear hb2)
                      (try clear hk)
                      (try clear hi)
                      refine hK.out _ _ trivial (fun hHeld => ?_)
                      clear hK K
                      refine norm_ (a' := ?_) ?_ ?_
                      rotate_left
                      · show Act.put _ (some 24) _ = _
                        simp only [Act.put, List.setIfInBounds_toArray, List.set_cons_zero, List.set_cons_succ, i64_w, i32_w]
                        rfl
                      refine one_ (i := 2) (N := some 18) #[true, true, true, false, false, true, true, true, true, false, true, false, false] rfl rfl (one_of HT_.out (by kernel_rfl)) (by decide) (fun K hK => ?_)
                      refine Kd.R_lit_step (Kd.int .u8) _ 5 ?hg (N := 18) ?hd (xs := ([1, (a0) % 256] : List Int)) (inner := [.int .u8 1, .int .u8 ((a0) % 256)]) (ok := fun _ => True) (okp := fun _ => True) ?hr ?hp (fun _ hk => hk) trivial (Below.refl _ _) (Nat.le_refl _) (by simp) ?_; (case hd => rfl); (case hg => rfl); (case hr => first | (go_simp; done) | (go_simp; rfl)); (case hp => exact (Reps.one (show Kd.M (Kd.int .u8) _ _ _ 1 [.int .u8 1] from rfl) (Reps.one (show Kd.M (Kd.int .u8) _ _ _ ((a0) % 256) [.int .u8 ((a0) % 256)] from rfl) (Reps.none _ _))))
                      intro v141 w15 ho16 hb hg_ hnew_
                      clear hg_ hnew_
                      (first | rw [← Ny140.out] at ho16 | (simp only [Int.reduceToNat] at ho16; rw [← Ny140.out] at ho16))
                      have n0_ := Aside0.mk (Kd.R_lower ho16 (below_size (by repeat (first | (with_reducible first | exact HB.out | apply below_alloc | apply pw_below_drewN | apply below_drew1) | exact HB.out))))
                      have n1_ := Aside0.mk (below_step (by repeat (first | (with_reducible first | exact HB.out | apply below_alloc | apply pw_below_drewN | apply below_drew1) | exact HB.out)) hb)
                      clear HB
                      have HO142 := n0_
                      have HB := n1_
                      clear n0_ n1_
                      clear hb ho16
                      refine hK.out _ _ trivial (fun hHeld => ?_)
                      clear hK K
                      refine norm_ (a' := ?_) ?_ ?_
                      rotate_left
                      · show Act.put _ (some 18) _ = _
                        simp only [Act.put, List.setIfInBounds_toArray, List.set_cons_zero, List.set_cons_succ, i64_w, i32_w]
                        rfl
                      refine one_ (i := 3) (N := some 19) #[true, true, true, true, false, true, true, true, true, false, true, false, false] rfl rfl (one_of HT_.out (by kernel_rfl)) (by decide) (fun K hK => ?_)
                      have hcv17 := own_string (P := Try.prog) Try.underlying36 Try.underlying5 Try.underlying9 (Kd.own_of_R HO142.out)
                      refine value_ (w1 := ?_) (v := ?_) (by rfl) rfl ?_ ?_
                      rotate_left 2
                      · go_simp
                        constructor
                        · rfl
                        · rfl
                      clear hcv17
                      refine hK.out _ _ trivial (fun hHeld => ?_)
                      clear hK K
                      refine norm_ (a' := ?_) ?_ ?_
                      rotate_left
                      · show Act.put _ (some 19) _ = _
                        simp only [Act.put, List.setIfInBounds_toArray, List.set_cons_zero, List.set_cons_succ, i64_w, i32_w]
                        rfl
                      refine pure_ (i := 4) (N := some 20) (v := ?_) (a' := ?_) #[true, true, true, true, true, true, true, true, true, false, true, false, false] rfl rfl (any_of HT_.out (by kernel_rfl)) (fun _ _ _ h => h) (Or.inl ⟨by rfl, ?_⟩) ?_ ?_
                      rotate_left
                      · intro w'
                        go_simp
                        with_reducible rfl
                      rotate_left
                      · simp only [Act.put, List.setIfInBounds_toArray, List.set_cons_zero, List.set_cons_succ, i64_w, i32_w]
                        rfl
                      exact norm_ (by simp only [putAll, Act.put, List.setIfInBounds_toArray, List.set_cons_zero, List.set_cons_succ]) (hCont (v141) _ ⟨(by (with_reducible repeat (first | apply Kd.R_alloc | apply Kd.R_drewN | apply Kd.R_drew)); exact HO142.out), (by repeat (first | (with_reducible first | exact HB.out | apply below_alloc | apply pw_below_drewN | apply below_drew1) | exact HB.out))⟩)
                  rintro v141 w18 ⟨h0_, h1_⟩
                  have n0_ : Aside0 (Kd.R (Kd.int .u8) 5 w18 w.heap.size (fun _ => True) v141 y140) := ⟨h0_⟩
                  have n1_ : Aside0 (Below w.heap.size w w18) := ⟨h1_⟩
                  clear HB
                  clear h0_ h1_
                  have HO142 := n0_
                  have HB := n1_
                  clear n0_ n1_
                  have hHeld := trivial
                  refine norm_ (a' := ?_) ?_ ?_
                  rotate_left
                  · simp only [putAll, Act.put, List.setIfInBounds_toArray, List.set_cons_zero, List.set_cons_succ]
                    rfl
                  refine pure_ (i := 9) (N := some 25) (v := ?_) (a' := ?_) #[true, true, true, true, true, true, true, true, true, true, true, false, false] rfl rfl (any_of HT_.out (by kernel_rfl)) (fun _ _ _ h => h) (Or.inl ⟨by rfl, ?_⟩) ?_ ?_
                  rotate_left
                  · intro w'
                    go_simp
                    with_reducible rfl
                  rotate_left
                  · simp only [Act.put, List.setIfInBounds_toArray, List.set_cons_zero, List.set_cons_succ, i64_w, i32_w]
                    rfl
                  refine pure_ (i := 11) (N := some 27) (v := ?_) (a' := ?_) #[true, true, true, true, true, true, true, true, true, true, true, true, false] rfl rfl (any_of HT_.out (by kernel_rfl)) (fun _ _ _ h => h) (Or.inl ⟨by rfl, ?_⟩) ?_ ?_
                  rotate_left
                  · intro w'
                    go_simp
                    with_reducible rfl
                  rotate_left
                  · simp only [Act.put, List.setIfInBounds_toArray, List.set_cons_zero, List.set_cons_succ, i64_w, i32_w]
                    rfl
                  refine pure_ (i := 12) (N := some 6) (v := ?_) (a' := ?_) #[true, true, true, true, true, true, true, true, true, true, true, true, true] rfl rfl (any_of HT_.out (by kernel_rfl)) (fun _ _ _ h => h) (Or.inl ⟨by rfl, ?_⟩) ?_ ?_
                  rotate_left
                  · intro w'
                    go_simp
                    with_reducible rfl
                  rotate_left
                  · simp only [Act.put, List.setIfInBounds_toArray, List.set_cons_zero, List.set_cons_succ, i64_w, i32_w]
                    rfl
                  refine done_ (done_of HT_.out (by kernel_rfl)) ?_
                  try go_wp2_with (first | ((with_reducible refine gate_callee (f := 17) rfl ?_); refine goesL_ (some 30) rfl rfl Try.func17 (by kernel_rfl) rfl #[.string ((((⟨#[83, 77, 80, 72]⟩ : ByteArray) ++ (strOfNums y140)) ++ t143) ++ a1)] rfl (by (try simp only [List.map_toArray, List.map_cons, List.map_nil]); first | done | rfl | (simp only [List.length_drop, List.length_take]; rfl)) ?_; (with_reducible refine (samphireref09_sum.calls kj2 ((((⟨#[83, 77, 80, 72]⟩ : ByteArray) ++ (strOfNums y140)) ++ t143) ++ a1) t144 _ A11.out).mono ?_); rintro e w19 ⟨rfl, hb⟩; refine ⟨_, rfl, ?_⟩; have n0_ := Aside0.mk (Kd.R_below (by (with_reducible repeat (first | apply Kd.R_alloc | apply Kd.R_drewN | apply Kd.R_drew)); exact HO142.out) hb); have n1_ := Aside0.mk (below_step (by repeat (first | (with_reducible first | exact HB.out | apply below_alloc | apply pw_below_drewN | apply below_drew1) | exact HB.out)) hb); clear HO142; clear HB; have HO142 := n0_; have HB := n1_; clear n0_ n1_; (try clear hb); (try clear hb2); (try clear hk); (try clear hi)))
                  go_ret2
                  exact ⟨by first | rfl | (simp [errW_none, errW_some] <;> rfl) | (simp [*, errW_none, errW_some] <;> rfl), by repeat (first | (with_reducible first | exact HB.out | apply below_alloc | apply pw_below_drewN | apply below_drew1) | exact HB.out)⟩
                · rw [if_neg c12] at H
                  exact absurd H (by simp)
              · rw [if_neg c10] at H
                exact absurd H (by simp)
            · rw [if_neg c9] at H
              exact absurd H (by simp)
          · rw [if_neg c7] at H
            exact absurd H (by simp)

/-! ### samphireref08_rest: function 30 -/
def samphireref08_rest.f (a0_0 : ByteArray) (a0_1 : Int) (a0_2 : Bool) : Option (ByteArray × Bool) := if a0_2 = true then (some ((⟨#[]⟩ : ByteArray), false)) else (if a0_1 < 0 then (some ((⟨#[]⟩ : ByteArray), false)) else (if a0_1 > (a0_0.size : Int) then (some ((⟨#[]⟩ : ByteArray), false)) else (if 0 ≤ a0_1 then (if a0_1 ≤ (a0_0.size : Int) then (some (a0_0.extract (a0_1 : Int).toNat a0_0.size, true)) else (none)) else (none))))
set_option maxHeartbeats 8000000 in
set_option maxRecDepth 100000 in
theorem samphireref08_rest.calls (a0_0 : ByteArray) (a0_1 : Int) (a0_2 : Bool) (r1 : ByteArray) (r2 : Bool) (w : World) (h : samphireref08_rest.f a0_0 a0_1 a0_2 = some (r1, r2)) :
    Calls Try.prog 30 #[.agg #[.string a0_0, .int .i64 a0_1, .bool a0_2]] w fun e w' => e = .returned (.tuple #[.string r1, .bool r2]) ∧ Below w.heap.size w w' := by
  have hu50 := Try.underlying50
  have HB := Aside0.mk (Below.refl w.heap.size w)
  have H : (if a0_2 = true then (some ((⟨#[]⟩ : ByteArray), false)) else (if a0_1 < 0 then (some ((⟨#[]⟩ : ByteArray), false)) else (if a0_1 > (a0_0.size : Int) then (some ((⟨#[]⟩ : ByteArray), false)) else (if 0 ≤ a0_1 then (if a0_1 ≤ (a0_0.size : Int) then (some (a0_0.extract (a0_1 : Int).toNat a0_0.size, true)) else (none)) else (none))))) = some (r1, r2) := h
  clear h
  by_cases c2 : a0_2 = true
  · subst c2
    have H1 : (some ((⟨#[]⟩ : ByteArray), false)) = some (r1, r2) := by rw [if_pos rfl] at H; exact H
    clear H
    have H := H1
    clear H1
    simp only [Option.some.injEq, Prod.mk.injEq] at H
    obtain ⟨rfl, rfl⟩ := H
    go_enter Try.func30, Try.ntmps30
    go_wp2_with (first | ((with_reducible refine gate_dst (N := 1) rfl ?_); (try (refine gate_guard (by rfl) ?_; dsimp only)); refine box_event ?hg (N := 1) ?hd (cs := #[.string a0_0, .int .i64 a0_1, .bool true]) (t := 50) ?hr ?_; (case hd => rfl); (case hg => rfl); (case hr => first | (go_simp; done) | (go_simp; rfl)); intro gb145 hg w3 hbox hb; have n0_ := Aside0.mk (below_step (by repeat (first | (with_reducible first | exact HB.out | apply below_alloc | apply pw_below_drewN | apply below_drew1) | exact HB.out)) hb); have n1_ := Aside0.mk (hbox); have n2_ := Aside0.mk ((by rw [hg]; exact (below_size (by repeat (first | (with_reducible first | exact HB.out | apply below_alloc | apply pw_below_drewN | apply below_drew1) | exact HB.out))) : w.heap.size ≤ gb145)); have n3_ := Aside0.mk ((by rw [hg]; exact (below_size (by repeat (first | (with_reducible first | exact HB.out | apply below_alloc | apply pw_below_drewN | apply below_drew1) | exact HB.out))) : w.heap.size ≤ gb145)); clear HB; have HB := n0_; have BK145 := n1_; have GW145 := n2_; have GE145 := n3_; clear n0_ n1_ n2_ n3_; clear hb hbox hg; have hcz4_0 : w3.cell? ⟨gb145, 0, none⟩ = some (.string a0_0) := (blk_cell BK145.out 0).trans rfl; have hcz4_1 : w3.cell? ⟨gb145, 1, none⟩ = some (.int .i64 a0_1) := (blk_cell BK145.out 1).trans rfl; have hcz4_2 : w3.cell? ⟨gb145, 2, none⟩ = some (.bool true) := (blk_cell BK145.out 2).trans rfl; have hfz4_0 := blk_frozen BK145.out 0; have hfz4_1 := blk_frozen BK145.out 1; have hfz4_2 := blk_frozen BK145.out 2))
    go_ret2
    exact ⟨by first | rfl | (simp [errW_none, errW_some] <;> rfl) | (simp [*, errW_none, errW_some] <;> rfl), by repeat (first | (with_reducible first | exact HB.out | apply below_alloc | apply pw_below_drewN | apply below_drew1 | refine below_set ?_ GE145.out) | exact HB.out)⟩
  · replace c2 := Bool.eq_false_iff.mpr c2
    subst c2
    have H1 : (if a0_1 < 0 then (some ((⟨#[]⟩ : ByteArray), false)) else (if a0_1 > (a0_0.size : Int) then (some ((⟨#[]⟩ : ByteArray), false)) else (if 0 ≤ a0_1 then (if a0_1 ≤ (a0_0.size : Int) then (some (a0_0.extract (a0_1 : Int).toNat a0_0.size, true)) else (none)) else (none)))) = some (r1, r2) := by rw [if_neg (show ¬ (false = true) by decide)] at H; exact H
    clear H
    have H := H1
    clear H1
    by_cases c5 : a0_1 < 0
    · rw [if_pos c5] at H
      have c5b0 : decide (a0_1 < 0) = true := decide_eq_true c5
      clear c5
      simp only [Option.some.injEq, Prod.mk.injEq] at H
      obtain ⟨rfl, rfl⟩ := H
      go_enter Try.func30, Try.ntmps30
      go_wp2_with (first | ((with_reducible refine gate_dst (N := 1) rfl ?_); (try (refine gate_guard (by rfl) ?_; dsimp only)); refine box_event ?hg (N := 1) ?hd (cs := #[.string a0_0, .int .i64 a0_1, .bool false]) (t := 50) ?hr ?_; (case hd => rfl); (case hg => rfl); (case hr => first | (go_simp; done) | (go_simp; rfl)); intro gb145 hg w6 hbox hb; have n0_ := Aside0.mk (below_step (by repeat (first | (with_reducible first | exact HB.out | apply below_alloc | apply pw_below_drewN | apply below_drew1) | exact HB.out)) hb); have n1_ := Aside0.mk (hbox); have n2_ := Aside0.mk ((by rw [hg]; exact (below_size (by repeat (first | (with_reducible first | exact HB.out | apply below_alloc | apply pw_below_drewN | apply below_drew1) | exact HB.out))) : w.heap.size ≤ gb145)); have n3_ := Aside0.mk ((by rw [hg]; exact (below_size (by repeat (first | (with_reducible first | exact HB.out | apply below_alloc | apply pw_below_drewN | apply below_drew1) | exact HB.out))) : w.heap.size ≤ gb145)); clear HB; have HB := n0_; have BK145 := n1_; have GW145 := n2_; have GE145 := n3_; clear n0_ n1_ n2_ n3_; clear hb hbox hg; have hcz7_0 : w6.cell? ⟨gb145, 0, none⟩ = some (.string a0_0) := (blk_cell BK145.out 0).trans rfl; have hcz7_1 : w6.cell? ⟨gb145, 1, none⟩ = some (.int .i64 a0_1) := (blk_cell BK145.out 1).trans rfl; have hcz7_2 : w6.cell? ⟨gb145, 2, none⟩ = some (.bool false) := (blk_cell BK145.out 2).trans rfl; have hfz7_0 := blk_frozen BK145.out 0; have hfz7_1 := blk_frozen BK145.out 1; have hfz7_2 := blk_frozen BK145.out 2))
      go_ret2
      exact ⟨by first | rfl | (simp [errW_none, errW_some] <;> rfl) | (simp [*, errW_none, errW_some] <;> rfl), by repeat (first | (with_reducible first | exact HB.out | apply below_alloc | apply pw_below_drewN | apply below_drew1 | refine below_set ?_ GE145.out) | exact HB.out)⟩
    · rw [if_neg c5] at H
      have c5b0 : decide (a0_1 < 0) = false := decide_eq_false c5
      clear c5
      by_cases c8 : a0_1 > (a0_0.size : Int)
      · rw [if_pos c8] at H
        have c8b0 : decide ((a0_0.size : Int) < a0_1) = true := decide_eq_true c8
        clear c8
        simp only [Option.some.injEq, Prod.mk.injEq] at H
        obtain ⟨rfl, rfl⟩ := H
        go_enter Try.func30, Try.ntmps30
        go_wp2_with (first | ((with_reducible refine gate_dst (N := 1) rfl ?_); (try (refine gate_guard (by rfl) ?_; dsimp only)); refine box_event ?hg (N := 1) ?hd (cs := #[.string a0_0, .int .i64 a0_1, .bool false]) (t := 50) ?hr ?_; (case hd => rfl); (case hg => rfl); (case hr => first | (go_simp; done) | (go_simp; rfl)); intro gb145 hg w9 hbox hb; have n0_ := Aside0.mk (below_step (by repeat (first | (with_reducible first | exact HB.out | apply below_alloc | apply pw_below_drewN | apply below_drew1) | exact HB.out)) hb); have n1_ := Aside0.mk (hbox); have n2_ := Aside0.mk ((by rw [hg]; exact (below_size (by repeat (first | (with_reducible first | exact HB.out | apply below_alloc | apply pw_below_drewN | apply below_drew1) | exact HB.out))) : w.heap.size ≤ gb145)); have n3_ := Aside0.mk ((by rw [hg]; exact (below_size (by repeat (first | (with_reducible first | exact HB.out | apply below_alloc | apply pw_below_drewN | apply below_drew1) | exact HB.out))) : w.heap.size ≤ gb145)); clear HB; have HB := n0_; have BK145 := n1_; have GW145 := n2_; have GE145 := n3_; clear n0_ n1_ n2_ n3_; clear hb hbox hg; have hcz10_0 : w9.cell? ⟨gb145, 0, none⟩ = some (.string a0_0) := (blk_cell BK145.out 0).trans rfl; have hcz10_1 : w9.cell? ⟨gb145, 1, none⟩ = some (.int .i64 a0_1) := (blk_cell BK145.out 1).trans rfl; have hcz10_2 : w9.cell? ⟨gb145, 2, none⟩ = some (.bool false) := (blk_cell BK145.out 2).trans rfl; have hfz10_0 := blk_frozen BK145.out 0; have hfz10_1 := blk_frozen BK145.out 1; have hfz10_2 := blk_frozen BK145.out 2))
        go_ret2
        exact ⟨by first | rfl | (simp [errW_none, errW_some] <;> rfl) | (simp [*, errW_none, errW_some] <;> rfl), by repeat (first | (with_reducible first | exact HB.out | apply below_alloc | apply pw_below_drewN | apply below_drew1 | refine below_set ?_ GE145.out) | exact HB.out)⟩
      · rw [if_neg c8] at H
        have c8b0 : decide ((a0_0.size : Int) < a0_1) = false := decide_eq_false c8
        clear c8
        by_cases c11 : 0 ≤ a0_1
        · rw [if_pos c11] at H
          have c11b0 := eq_true c11
          have c11b1 : decide (0 ≤ a0_1) = true := decide_eq_true c11
          clear c11
          by_cases c12 : a0_1 ≤ (a0_0.size : Int)
          · rw [if_pos c12] at H
            have c12b0 := eq_true c12
            have c12b1 : decide (a0_1 ≤ (a0_0.size : Int)) = true := decide_eq_true c12
            clear c12
            simp only [Option.some.injEq, Prod.mk.injEq] at H
            obtain ⟨rfl, rfl⟩ := H
            go_enter Try.func30, Try.ntmps30
            go_wp2_with (first | ((with_reducible refine gate_dst (N := 1) rfl ?_); (try (refine gate_guard (by rfl) ?_; dsimp only)); refine box_event ?hg (N := 1) ?hd (cs := #[.string a0_0, .int .i64 a0_1, .bool false]) (t := 50) ?hr ?_; (case hd => rfl); (case hg => rfl); (case hr => first | (go_simp; done) | (go_simp; rfl)); intro gb145 hg w13 hbox hb; have n0_ := Aside0.mk (below_step (by repeat (first | (with_reducible first | exact HB.out | apply below_alloc | apply pw_below_drewN | apply below_drew1) | exact HB.out)) hb); have n1_ := Aside0.mk (hbox); have n2_ := Aside0.mk ((by rw [hg]; exact (below_size (by repeat (first | (with_reducible first | exact HB.out | apply below_alloc | apply pw_below_drewN | apply below_drew1) | exact HB.out))) : w.heap.size ≤ gb145)); have n3_ := Aside0.mk ((by rw [hg]; exact (below_size (by repeat (first | (with_reducible first | exact HB.out | apply below_alloc | apply pw_below_drewN | apply below_drew1) | exact HB.out))) : w.heap.size ≤ gb145)); clear HB; have HB := n0_; have BK145 := n1_; have GW145 := n2_; have GE145 := n3_; clear n0_ n1_ n2_ n3_; clear hb hbox hg; have hcz14_0 : w13.cell? ⟨gb145, 0, none⟩ = some (.string a0_0) := (blk_cell BK145.out 0).trans rfl; have hcz14_1 : w13.cell? ⟨gb145, 1, none⟩ = some (.int .i64 a0_1) := (blk_cell BK145.out 1).trans rfl; have hcz14_2 : w13.cell? ⟨gb145, 2, none⟩ = some (.bool false) := (blk_cell BK145.out 2).trans rfl; have hfz14_0 := blk_frozen BK145.out 0; have hfz14_1 := blk_frozen BK145.out 1; have hfz14_2 := blk_frozen BK145.out 2))
            go_ret2
            exact ⟨by first | rfl | (simp [errW_none, errW_some] <;> rfl) | (simp [*, errW_none, errW_some] <;> rfl), by repeat (first | (with_reducible first | exact HB.out | apply below_alloc | apply pw_below_drewN | apply below_drew1 | refine below_set ?_ GE145.out) | exact HB.out)⟩
          · rw [if_neg c12] at H
            exact absurd H (by simp)
        · rw [if_neg c11] at H
          exact absurd H (by simp)

end Go.Proofs.Ytjmcdnhbiamokaa.Q
