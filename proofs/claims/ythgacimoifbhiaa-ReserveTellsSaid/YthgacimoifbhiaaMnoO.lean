import Derived.Test.YthgacimoifbhiaaRaddP
namespace Go.Proofs.Ythgacimoifbhiaa
attribute [local go_sem ↓] Go.wp_at_zero Go.wp_at_succ
open Go.RowKit Go.Proofs.Ythgacimoifbhiaa.Q Go.Proofs.Ythgacimoifbhiaa.T Go.Proofs.YthgacimoifbhiaaW.PrintWords Go.Proofs.YthgacimoifbhiaaW.PrintLast Go.Proofs.YthgacimoifbhiaaW.PrintMore
set_option linter.unusedVariables false
set_option linter.unusedSimpArgs false
structure Bo (w : World) (s : Nat) (K N K2 M : Int) (u v : Value) (x : Value) (t : Int) : Prop where
 a : w.heap[s]? = some (sampleO K N u)
 b : w.heap[s + 1]? = some (sampleO K2 M v)
 o : w.heap[s + 1 + 1]? = some (wordsO x t)
 r : w.heap[s + 1 + 1 + 1]? = some (sampleO 0 0 (.slice none 0 0))
 q : w.heap[s + 1 + 1 + 1 + 1]? = some (wordsO (.slice none 0 0) 0)
section
variable {w w1 : World} {s : Nat} {K N K2 M a : Int} {u v x : Value}
theorem Bo.below (h : Bo w s K N K2 M u v x a) (hb : Below w.heap.size w w1) : Bo w1 s K N K2 M u v x a := ⟨blk_below h.a hb, blk_below h.b hb, blk_below h.o hb, blk_below h.r hb, blk_below h.q hb⟩
theorem Bo.made (w : World) (K N K2 M : Int) (u v x : Value) (a : Int) : Bo (((((w.alloc (sampleO K N u)).alloc (sampleO K2 M v)).alloc (wordsO x a)).alloc (sampleO 0 0 (.slice none 0 0))).alloc (wordsO (.slice none 0 0) 0)) w.heap.size K N K2 M u v x a := by
 have n (w : World) (o : Obj) (k : Nat) (hk : k = w.heap.size) : (w.alloc o).heap[k]? = some o := by subst hk; exact Deep.blk_alloc_new w o
 exact ⟨blk_alloc (blk_alloc (blk_alloc (blk_alloc (n w _ _ rfl) _) _) _) _, blk_alloc (blk_alloc (blk_alloc (n _ _ _ (by rw [size_push])) _) _) _, blk_alloc (blk_alloc (n _ _ _ (by rw [size_push, size_push])) _) _,
  blk_alloc (n _ _ _ (by rw [size_push, size_push, size_push])) _, n _ _ _ (by rw [size_push, size_push, size_push, size_push])⟩
end
set_option maxRecDepth 100000 in
set_option maxHeartbeats 4000000 in
theorem merge_no (kf : Nat) (er K N K2 M : Int) (A0 : Option Addr) (c0 : Nat) (X : List ByteArray) (A1 : Option Addr) (c1 : Nat) (Y : List ByteArray) (A : Option Addr) (c : Nat) (l : List Int) (a : Int) (w : World)
  (h0 : Kd.C Kd.string w A0 X.length X) (hc0 : X.length ≤ c0) (h1 : Kd.C Kd.string w A1 Y.length Y) (hc1 : Y.length ≤ c1)
  (h : (reserve_Right.f K N X = some false ∧ er = 1) ∨ (reserve_Right.f K N X = some true ∧ ((reserve_Right.f K2 M Y = some false ∧ er = 1) ∨ (reserve_Right.f K2 M Y = some true ∧ ((K ≠ K2 ∧ er = 10) ∨ (K = K2 ∧ 4611686018427387904 < IntKind.u64.wrap (N + M) ∧ er = 12)))))) :
  Calls Try.prog 19 #[.agg #[.int .i64 K, .int .u64 N, .slice A0 X.length c0], .agg #[.int .i64 K2, .int .u64 M, .slice A1 Y.length c1], .agg #[.slice A l.length c, .int .i64 a]] w fun e w' =>
   e = .returned (.tuple #[.agg #[.int .i64 0, .int .u64 0, .slice none 0 0], .agg #[.slice A l.length c, .int .i64 a], .int .i64 er]) ∧ Below w.heap.size w w' := by
 have hut := Try.underlying26
 have huw := Try.underlying32
 have S0 := Aside0.mk (Bo.made w K N K2 M (.slice A0 X.length c0) (.slice A1 Y.length c1) (.slice A l.length c) a)
 have B0 := Aside0.mk (show Below w.heap.size w (((((w.alloc (sampleO K N (.slice A0 X.length c0))).alloc (sampleO K2 M (.slice A1 Y.length c1))).alloc (wordsO (.slice A l.length c) a)).alloc (sampleO 0 0 (.slice none 0 0))).alloc (wordsO (.slice none 0 0) 0)) from below_alloc (below_alloc (below_alloc (below_alloc (below_alloc (Below.refl _ _) _) _) _) _) _)
 go_enter Try.func19, Try.ntmps19
 go_upto_region 1 with (fail)
 obtain ⟨w0, hw0⟩ : ∃ w0, w0 = (((((w.alloc (sampleO K N (.slice A0 X.length c0))).alloc (sampleO K2 M (.slice A1 Y.length c1))).alloc (wordsO (.slice A l.length c) a)).alloc (sampleO 0 0 (.slice none 0 0))).alloc (wordsO (.slice none 0 0) 0)) := ⟨_, rfl⟩
 obtain ⟨s, hs⟩ : ∃ s, s = w.heap.size := ⟨_, rfl⟩
 rw [← hw0] at S0 B0
 change Code.wp _ _ _ _ (((((w.alloc (sampleO K N (.slice A0 X.length c0))).alloc (sampleO K2 M (.slice A1 Y.length c1))).alloc (wordsO (.slice A l.length c) a)).alloc (sampleO 0 0 (.slice none 0 0))).alloc (wordsO (.slice none 0 0) 0))
 rw [← hw0, ← hs]
 rw [← hs] at S0
 clear hw0
 have hsw : w.heap.size ≤ s := Nat.le_of_eq hs.symm
 clear hs
 have ha0 : w0.cell? ⟨s, 0, none⟩ = some (.int .i64 K) := (blk_cell S0.out.a 0).trans rfl
 have ha1 : w0.cell? ⟨s, 1, none⟩ = some (.int .u64 N) := (blk_cell S0.out.a 1).trans rfl
 have ha2 : w0.cell? ⟨s, 2, none⟩ = some (.slice A0 X.length c0) := (blk_cell S0.out.a 2).trans rfl
 rcases h with ⟨r1, rfl⟩ | ⟨r1, ⟨r2, rfl⟩ | ⟨r2, ⟨hk, rfl⟩ | ⟨rfl, hn, rfl⟩⟩⟩
 ·
  go_upto_region 2 with (go_at_call_of 17 (Value.agg #[.int .i64 K, .int .u64 N, .slice A0 X.length c0]); refine (reserve_Right.calls K N A0 c0 X false _ (Kd.C_below h0 B0.out) hc0 r1).mono ?_; rintro e w1 ⟨rfl, hd⟩; have S1 := Aside0.mk (S0.out.below hd); have B1 := Aside0.mk (below_step B0.out hd); clear hd; have hb0 : w1.cell? ⟨s + 1, 0, none⟩ = some (.int .i64 K2) := (blk_cell S1.out.b 0).trans rfl; have hb1 : w1.cell? ⟨s + 1, 1, none⟩ = some (.int .u64 M) := (blk_cell S1.out.b 1).trans rfl; have hb2 : w1.cell? ⟨s + 1, 2, none⟩ = some (.slice A1 Y.length c1) := (blk_cell S1.out.b 2).trans rfl)
  have Q5 := Aside0.mk S1.out.o
  have Q6 := Aside0.mk S1.out.r
  have Q7 := Aside0.mk S1.out.q
  have QB := Aside0.mk B1.out
  have h50 : w1.cell? ⟨s + 1 + 1, 0, none⟩ = some (.slice A l.length c) := (blk_cell Q5.out 0).trans rfl
  have h51 : w1.cell? ⟨s + 1 + 1, 1, none⟩ = some (.int .i64 a) := (blk_cell Q5.out 1).trans rfl
  have h60 : w1.cell? ⟨s + 1 + 1 + 1, 0, none⟩ = some (.int .i64 0) := (blk_cell Q6.out 0).trans rfl
  have h61 : w1.cell? ⟨s + 1 + 1 + 1, 1, none⟩ = some (.int .u64 0) := (blk_cell Q6.out 1).trans rfl
  have h62 : w1.cell? ⟨s + 1 + 1 + 1, 2, none⟩ = some (.slice none 0 0) := (blk_cell Q6.out 2).trans rfl
  have h70 : w1.cell? ⟨s + 1 + 1 + 1 + 1, 0, none⟩ = some (.slice none 0 0) := (blk_cell Q7.out 0).trans rfl
  have h71 : w1.cell? ⟨s + 1 + 1 + 1 + 1, 1, none⟩ = some (.int .i64 0) := (blk_cell Q7.out 1).trans rfl
  have f60 := blk_frozen Q6.out 0
  have f61 := blk_frozen Q6.out 1
  have f62 := blk_frozen Q6.out 2
  have f70 := blk_frozen Q7.out 0
  have f71 := blk_frozen Q7.out 1
  go_region_with (fail)
  all_goals
   go_wp2
   refine bodyPost_ret (results_list (rs := [.cell 6 26, .cell 7 32, .tmp 8]) rfl (by simp) (.cell (s + 1 + 1 + 1) 26 #[.int .i64 0, .int .u64 0, .slice none 0 0] (0, 0) _ rfl ?b6 Try.underlying26 rfl (by kernel_rfl) (.cell (s + 1 + 1 + 1 + 1) 32 #[.slice A l.length c, .int .i64 a] (0, 0) _ rfl ?b7 Try.underlying32 rfl (by kernel_rfl) (.tmp .nil)))) rfl ?post
   case b6 => first
    | exact blk_drew (blk_far (blk_far (put26 Q6.out 0 0 (.slice none 0 0)) (by simp) _) (by simp) _)
    | exact blk_drew (put26 (blk_far (blk_far Q6.out (by simp) _) (by simp) _) 0 0 (.slice none 0 0))
   case b7 => first
    | exact blk_drew (put32 (blk_far (blk_far (blk_far Q7.out (by simp) _) (by simp) _) (by simp) _) (.slice A l.length c) a)
    | exact blk_drew (blk_far (blk_far (blk_far (put32 Q7.out (.slice A l.length c) a) (by simp) _) (by simp) _) (by simp) _)
   case post => exact ⟨rfl, below_drew1 (set5 QB.out (by dsimp only; omega) (by dsimp only; omega) (by dsimp only; omega) (by dsimp only; omega) (by dsimp only; omega))⟩
 ·
  go_upto_region 2 with (first | (go_at_call_of 17 (Value.agg #[.int .i64 K, .int .u64 N, .slice A0 X.length c0]); refine (reserve_Right.calls K N A0 c0 X true _ (Kd.C_below h0 B0.out) hc0 r1).mono ?_; rintro e w1 ⟨rfl, hd⟩; have S1 := Aside0.mk (S0.out.below hd); have B1 := Aside0.mk (below_step B0.out hd); clear hd; have hb0 : w1.cell? ⟨s + 1, 0, none⟩ = some (.int .i64 K2) := (blk_cell S1.out.b 0).trans rfl; have hb1 : w1.cell? ⟨s + 1, 1, none⟩ = some (.int .u64 M) := (blk_cell S1.out.b 1).trans rfl; have hb2 : w1.cell? ⟨s + 1, 2, none⟩ = some (.slice A1 Y.length c1) := (blk_cell S1.out.b 2).trans rfl) | (go_at_call_of 17 (Value.agg #[.int .i64 K2, .int .u64 M, .slice A1 Y.length c1]); refine (reserve_Right.calls K2 M A1 c1 Y false _ (Kd.C_below h1 B1.out) hc1 r2).mono ?_; rintro e w2 ⟨rfl, hd⟩; have S2 := Aside0.mk (S1.out.below hd); have B2 := Aside0.mk (below_step B1.out hd); clear hd; have ha0 : w2.cell? ⟨s, 0, none⟩ = some (.int .i64 K) := (blk_cell S2.out.a 0).trans rfl; have ha1 : w2.cell? ⟨s, 1, none⟩ = some (.int .u64 N) := (blk_cell S2.out.a 1).trans rfl; have hb0 : w2.cell? ⟨s + 1, 0, none⟩ = some (.int .i64 K2) := (blk_cell S2.out.b 0).trans rfl; have hb1 : w2.cell? ⟨s + 1, 1, none⟩ = some (.int .u64 M) := (blk_cell S2.out.b 1).trans rfl))
  have Q5 := Aside0.mk S2.out.o
  have Q6 := Aside0.mk S2.out.r
  have Q7 := Aside0.mk S2.out.q
  have QB := Aside0.mk B2.out
  have h50 : w2.cell? ⟨s + 1 + 1, 0, none⟩ = some (.slice A l.length c) := (blk_cell Q5.out 0).trans rfl
  have h51 : w2.cell? ⟨s + 1 + 1, 1, none⟩ = some (.int .i64 a) := (blk_cell Q5.out 1).trans rfl
  have h60 : w2.cell? ⟨s + 1 + 1 + 1, 0, none⟩ = some (.int .i64 0) := (blk_cell Q6.out 0).trans rfl
  have h61 : w2.cell? ⟨s + 1 + 1 + 1, 1, none⟩ = some (.int .u64 0) := (blk_cell Q6.out 1).trans rfl
  have h62 : w2.cell? ⟨s + 1 + 1 + 1, 2, none⟩ = some (.slice none 0 0) := (blk_cell Q6.out 2).trans rfl
  have h70 : w2.cell? ⟨s + 1 + 1 + 1 + 1, 0, none⟩ = some (.slice none 0 0) := (blk_cell Q7.out 0).trans rfl
  have h71 : w2.cell? ⟨s + 1 + 1 + 1 + 1, 1, none⟩ = some (.int .i64 0) := (blk_cell Q7.out 1).trans rfl
  have f60 := blk_frozen Q6.out 0
  have f61 := blk_frozen Q6.out 1
  have f62 := blk_frozen Q6.out 2
  have f70 := blk_frozen Q7.out 0
  have f71 := blk_frozen Q7.out 1
  go_region_with (fail)
  all_goals
   go_wp2
   refine bodyPost_ret (results_list (rs := [.cell 6 26, .cell 7 32, .tmp 8]) rfl (by simp) (.cell (s + 1 + 1 + 1) 26 #[.int .i64 0, .int .u64 0, .slice none 0 0] (0, 0) _ rfl ?b6 Try.underlying26 rfl (by kernel_rfl) (.cell (s + 1 + 1 + 1 + 1) 32 #[.slice A l.length c, .int .i64 a] (0, 0) _ rfl ?b7 Try.underlying32 rfl (by kernel_rfl) (.tmp .nil)))) rfl ?post
   case b6 => first
    | exact blk_drew (blk_far (blk_far (put26 Q6.out 0 0 (.slice none 0 0)) (by simp) _) (by simp) _)
    | exact blk_drew (put26 (blk_far (blk_far Q6.out (by simp) _) (by simp) _) 0 0 (.slice none 0 0))
   case b7 => first
    | exact blk_drew (put32 (blk_far (blk_far (blk_far Q7.out (by simp) _) (by simp) _) (by simp) _) (.slice A l.length c) a)
    | exact blk_drew (blk_far (blk_far (blk_far (put32 Q7.out (.slice A l.length c) a) (by simp) _) (by simp) _) (by simp) _)
   case post => exact ⟨rfl, below_drew1 (set5 QB.out (by dsimp only; omega) (by dsimp only; omega) (by dsimp only; omega) (by dsimp only; omega) (by dsimp only; omega))⟩
 ·
  have hk2 : (K != K2) = true := by simpa using hk
  go_upto_region 4 with (first | (go_at_call_of 17 (Value.agg #[.int .i64 K, .int .u64 N, .slice A0 X.length c0]); refine (reserve_Right.calls K N A0 c0 X true _ (Kd.C_below h0 B0.out) hc0 r1).mono ?_; rintro e w1 ⟨rfl, hd⟩; have S1 := Aside0.mk (S0.out.below hd); have B1 := Aside0.mk (below_step B0.out hd); clear hd; have hb0 : w1.cell? ⟨s + 1, 0, none⟩ = some (.int .i64 K2) := (blk_cell S1.out.b 0).trans rfl; have hb1 : w1.cell? ⟨s + 1, 1, none⟩ = some (.int .u64 M) := (blk_cell S1.out.b 1).trans rfl; have hb2 : w1.cell? ⟨s + 1, 2, none⟩ = some (.slice A1 Y.length c1) := (blk_cell S1.out.b 2).trans rfl) | (go_at_call_of 17 (Value.agg #[.int .i64 K2, .int .u64 M, .slice A1 Y.length c1]); refine (reserve_Right.calls K2 M A1 c1 Y true _ (Kd.C_below h1 B1.out) hc1 r2).mono ?_; rintro e w2 ⟨rfl, hd⟩; have S2 := Aside0.mk (S1.out.below hd); have B2 := Aside0.mk (below_step B1.out hd); clear hd; have ha0 : w2.cell? ⟨s, 0, none⟩ = some (.int .i64 K) := (blk_cell S2.out.a 0).trans rfl; have ha1 : w2.cell? ⟨s, 1, none⟩ = some (.int .u64 N) := (blk_cell S2.out.a 1).trans rfl; have hb0 : w2.cell? ⟨s + 1, 0, none⟩ = some (.int .i64 K2) := (blk_cell S2.out.b 0).trans rfl; have hb1 : w2.cell? ⟨s + 1, 1, none⟩ = some (.int .u64 M) := (blk_cell S2.out.b 1).trans rfl))
  have Q5 := Aside0.mk S2.out.o
  have Q6 := Aside0.mk S2.out.r
  have Q7 := Aside0.mk S2.out.q
  have QB := Aside0.mk B2.out
  have h50 : w2.cell? ⟨s + 1 + 1, 0, none⟩ = some (.slice A l.length c) := (blk_cell Q5.out 0).trans rfl
  have h51 : w2.cell? ⟨s + 1 + 1, 1, none⟩ = some (.int .i64 a) := (blk_cell Q5.out 1).trans rfl
  have h60 : w2.cell? ⟨s + 1 + 1 + 1, 0, none⟩ = some (.int .i64 0) := (blk_cell Q6.out 0).trans rfl
  have h61 : w2.cell? ⟨s + 1 + 1 + 1, 1, none⟩ = some (.int .u64 0) := (blk_cell Q6.out 1).trans rfl
  have h62 : w2.cell? ⟨s + 1 + 1 + 1, 2, none⟩ = some (.slice none 0 0) := (blk_cell Q6.out 2).trans rfl
  have h70 : w2.cell? ⟨s + 1 + 1 + 1 + 1, 0, none⟩ = some (.slice none 0 0) := (blk_cell Q7.out 0).trans rfl
  have h71 : w2.cell? ⟨s + 1 + 1 + 1 + 1, 1, none⟩ = some (.int .i64 0) := (blk_cell Q7.out 1).trans rfl
  have f60 := blk_frozen Q6.out 0
  have f61 := blk_frozen Q6.out 1
  have f62 := blk_frozen Q6.out 2
  have f70 := blk_frozen Q7.out 0
  have f71 := blk_frozen Q7.out 1
  go_region_with (fail)
  all_goals
   go_wp2
   refine bodyPost_ret (results_list (rs := [.cell 6 26, .cell 7 32, .tmp 8]) rfl (by simp) (.cell (s + 1 + 1 + 1) 26 #[.int .i64 0, .int .u64 0, .slice none 0 0] (0, 0) _ rfl ?b6 Try.underlying26 rfl (by kernel_rfl) (.cell (s + 1 + 1 + 1 + 1) 32 #[.slice A l.length c, .int .i64 a] (0, 0) _ rfl ?b7 Try.underlying32 rfl (by kernel_rfl) (.tmp .nil)))) rfl ?post
   case b6 => first
    | exact blk_drew (blk_far (blk_far (put26 Q6.out 0 0 (.slice none 0 0)) (by simp) _) (by simp) _)
    | exact blk_drew (put26 (blk_far (blk_far Q6.out (by simp) _) (by simp) _) 0 0 (.slice none 0 0))
   case b7 => first
    | exact blk_drew (put32 (blk_far (blk_far (blk_far Q7.out (by simp) _) (by simp) _) (by simp) _) (.slice A l.length c) a)
    | exact blk_drew (blk_far (blk_far (blk_far (put32 Q7.out (.slice A l.length c) a) (by simp) _) (by simp) _) (by simp) _)
   case post => exact ⟨rfl, below_drew1 (set5 QB.out (by dsimp only; omega) (by dsimp only; omega) (by dsimp only; omega) (by dsimp only; omega) (by dsimp only; omega))⟩
 ·
  have hk2 : (K != K) = false := by simp
  have hn2 : decide (4611686018427387904 < IntKind.u64.wrap (N + M)) = true := decide_eq_true hn
  go_upto_region 6 with (first | (go_at_call_of 17 (Value.agg #[.int .i64 K, .int .u64 N, .slice A0 X.length c0]); refine (reserve_Right.calls K N A0 c0 X true _ (Kd.C_below h0 B0.out) hc0 r1).mono ?_; rintro e w1 ⟨rfl, hd⟩; have S1 := Aside0.mk (S0.out.below hd); have B1 := Aside0.mk (below_step B0.out hd); clear hd; have hb0 : w1.cell? ⟨s + 1, 0, none⟩ = some (.int .i64 K) := (blk_cell S1.out.b 0).trans rfl; have hb1 : w1.cell? ⟨s + 1, 1, none⟩ = some (.int .u64 M) := (blk_cell S1.out.b 1).trans rfl; have hb2 : w1.cell? ⟨s + 1, 2, none⟩ = some (.slice A1 Y.length c1) := (blk_cell S1.out.b 2).trans rfl) | (go_at_call_of 17 (Value.agg #[.int .i64 K, .int .u64 M, .slice A1 Y.length c1]); refine (reserve_Right.calls K M A1 c1 Y true _ (Kd.C_below h1 B1.out) hc1 r2).mono ?_; rintro e w2 ⟨rfl, hd⟩; have S2 := Aside0.mk (S1.out.below hd); have B2 := Aside0.mk (below_step B1.out hd); clear hd; have ha0 : w2.cell? ⟨s, 0, none⟩ = some (.int .i64 K) := (blk_cell S2.out.a 0).trans rfl; have ha1 : w2.cell? ⟨s, 1, none⟩ = some (.int .u64 N) := (blk_cell S2.out.a 1).trans rfl; have hb0 : w2.cell? ⟨s + 1, 0, none⟩ = some (.int .i64 K) := (blk_cell S2.out.b 0).trans rfl; have hb1 : w2.cell? ⟨s + 1, 1, none⟩ = some (.int .u64 M) := (blk_cell S2.out.b 1).trans rfl))
  have Q5 := Aside0.mk S2.out.o
  have Q6 := Aside0.mk S2.out.r
  have Q7 := Aside0.mk S2.out.q
  have QB := Aside0.mk B2.out
  have h50 : w2.cell? ⟨s + 1 + 1, 0, none⟩ = some (.slice A l.length c) := (blk_cell Q5.out 0).trans rfl
  have h51 : w2.cell? ⟨s + 1 + 1, 1, none⟩ = some (.int .i64 a) := (blk_cell Q5.out 1).trans rfl
  have h60 : w2.cell? ⟨s + 1 + 1 + 1, 0, none⟩ = some (.int .i64 0) := (blk_cell Q6.out 0).trans rfl
  have h61 : w2.cell? ⟨s + 1 + 1 + 1, 1, none⟩ = some (.int .u64 0) := (blk_cell Q6.out 1).trans rfl
  have h62 : w2.cell? ⟨s + 1 + 1 + 1, 2, none⟩ = some (.slice none 0 0) := (blk_cell Q6.out 2).trans rfl
  have h70 : w2.cell? ⟨s + 1 + 1 + 1 + 1, 0, none⟩ = some (.slice none 0 0) := (blk_cell Q7.out 0).trans rfl
  have h71 : w2.cell? ⟨s + 1 + 1 + 1 + 1, 1, none⟩ = some (.int .i64 0) := (blk_cell Q7.out 1).trans rfl
  have f60 := blk_frozen Q6.out 0
  have f61 := blk_frozen Q6.out 1
  have f62 := blk_frozen Q6.out 2
  have f70 := blk_frozen Q7.out 0
  have f71 := blk_frozen Q7.out 1
  go_region_with (fail)
  all_goals
   go_wp2
   refine bodyPost_ret (results_list (rs := [.cell 6 26, .cell 7 32, .tmp 8]) rfl (by simp) (.cell (s + 1 + 1 + 1) 26 #[.int .i64 0, .int .u64 0, .slice none 0 0] (0, 0) _ rfl ?b6 Try.underlying26 rfl (by kernel_rfl) (.cell (s + 1 + 1 + 1 + 1) 32 #[.slice A l.length c, .int .i64 a] (0, 0) _ rfl ?b7 Try.underlying32 rfl (by kernel_rfl) (.tmp .nil)))) rfl ?post
   case b6 => first
    | exact blk_drew (blk_far (blk_far (put26 Q6.out 0 0 (.slice none 0 0)) (by simp) _) (by simp) _)
    | exact blk_drew (put26 (blk_far (blk_far Q6.out (by simp) _) (by simp) _) 0 0 (.slice none 0 0))
   case b7 => first
    | exact blk_drew (put32 (blk_far (blk_far (blk_far Q7.out (by simp) _) (by simp) _) (by simp) _) (.slice A l.length c) a)
    | exact blk_drew (blk_far (blk_far (blk_far (put32 Q7.out (.slice A l.length c) a) (by simp) _) (by simp) _) (by simp) _)
   case post => exact ⟨rfl, below_drew1 (set5 QB.out (by dsimp only; omega) (by dsimp only; omega) (by dsimp only; omega) (by dsimp only; omega) (by dsimp only; omega))⟩
end Go.Proofs.Ythgacimoifbhiaa
