import Derived.Test.YthgacimoifbhiaaRaddP
namespace Go.Proofs.Ythgacimoifbhiaa
attribute [local go_sem ↓] Go.wp_at_zero Go.wp_at_succ
open Go.RowKit Go.Proofs.Ythgacimoifbhiaa.Q Go.Proofs.Ythgacimoifbhiaa.T Go.Proofs.YthgacimoifbhiaaW.PrintWords Go.Proofs.YthgacimoifbhiaaW.PrintLast Go.Proofs.YthgacimoifbhiaaW.PrintMore
set_option linter.unusedVariables false
set_option linter.unusedSimpArgs false
abbrev raddArgs (K N : Int) (A0 : Option Addr) (c0 : Nat) (X : List ByteArray) (key : ByteArray) (A : Option Addr) (c : Nat) (l : List Int) (a : Int) : Array Value :=
 #[.agg #[.int .i64 K, .int .u64 N, .slice A0 X.length c0], .string key, .agg #[.slice A l.length c, .int .i64 a]]
def RPost (w : World) (P0 P2 : Nat → Prop) (r1 r2 : Int) (r3 : List ByteArray) (r4 : List Int) (r5 r6 : Int) (e : Ending) (w' : World) : Prop :=
 ∃ v2_ v3_ : Value, e = .returned (.tuple #[.agg #[.int .i64 r1, .int .u64 r2, v2_], .agg #[v3_, .int .i64 r5], .int .i64 r6]) ∧ Kd.V Kd.string 9 w' w.heap.size (fun k_ => ((P0 k_ ∨ P2 k_) ∨ w.heap.size ≤ k_)) v2_ r3 ∧ Kd.V (Kd.int .u64) 23 w' w.heap.size (fun k_ => ((P0 k_ ∨ P2 k_) ∨ w.heap.size ≤ k_)) v3_ r4 ∧ Below w.heap.size w w'
theorem rpost_same {w w' : World} {P0 P2 : Nat → Prop} {K N : Int} {A0 : Option Addr} {c0 : Nat} {X : List ByteArray} {A : Option Addr} {c : Nat} {l : List Int} {a er : Int} (V0 : Kd.V Kd.string 9 w w.heap.size P0 (.slice A0 X.length c0) X) (V2 : Kd.V (Kd.int .u64) 23 w w.heap.size P2 (.slice A l.length c) l) (hb : Below w.heap.size w w') :
  RPost w P0 P2 K N X l a er (.returned (.tuple #[.agg #[.int .i64 K, .int .u64 N, .slice A0 X.length c0], .agg #[.slice A l.length c, .int .i64 a], .int .i64 er])) w' :=
 ⟨_, _, rfl, Kd.V_mono (Kd.V_below V0 hb) (fun k hk => .inl (.inl hk)), Kd.V_mono (Kd.V_below V2 hb) (fun k hk => .inl (.inr hk)), hb⟩
abbrev Fq (w : World) (P0 P2 : Nat → Prop) (s k : Nat) : Prop := k ≠ s + 1 + 1 ∧ k ≠ s + 1 + 1 + 1 ∧ ((P0 k ∨ P2 k) ∨ w.heap.size ≤ k)
theorem rpost_new {w w' : World} {P0 P2 : Nat → Prop} {s : Nat} {K N : Int} {v2 v3 : Value} {X : List ByteArray} {l : List Int} {a er : Int} (V0 : Kd.V Kd.string 9 w' 0 (Fq w P0 P2 s) v2 X) (V2 : Kd.V (Kd.int .u64) 23 w' 0 (Fq w P0 P2 s) v3 l) (hb : Below w.heap.size w w') :
  RPost w P0 P2 K N X l a er (.returned (.tuple #[.agg #[.int .i64 K, .int .u64 N, v2], .agg #[v3, .int .i64 a], .int .i64 er])) w' :=
 ⟨_, _, rfl, Kd.V_mono (Kd.V_map V0 (fun _ h => h)) (fun k hk => hk.2.2), Kd.V_mono (Kd.V_map V2 (fun _ h => h)) (fun k hk => hk.2.2), hb⟩
theorem fq6 {w : World} {P0 P2 : Nat → Prop} {s : Nat} : ∀ k, Fq w P0 P2 s k → k ≠ s + 1 + 1 := fun k hk => hk.1
theorem fq7 {w : World} {P0 P2 : Nat → Prop} {s : Nat} : ∀ k, Fq w P0 P2 s k → k ≠ s + 1 + 1 + 1 := fun k hk => hk.2.1
set_option maxRecDepth 100000 in
set_option maxHeartbeats 4000000 in
theorem radd_no (kf : Nat) (er : Int) (K N : Int) (P0 : Nat → Prop) (A0 : Option Addr) (c0 : Nat) (X : List ByteArray) (key : ByteArray) (P2 : Nat → Prop) (A : Option Addr) (c : Nat) (l : List Int) (a : Int) (w : World)
  (h0 : Kd.V Kd.string 9 w w.heap.size P0 (.slice A0 X.length c0) X) (h2 : Kd.V (Kd.int .u64) 23 w w.heap.size P2 (.slice A l.length c) l)
  (h : (samphireref16_Right.f kf K N X = some false ∧ er = 1) ∨ (samphireref16_Right.f kf K N X = some true ∧ ((64 < key.size ∧ er = 5) ∨ (key.size ≤ 64 ∧ N = 4611686018427387904 ∧ er = 12)))) :
  Calls Try.prog 14 (raddArgs K N A0 c0 X key A c l a) w (RPost w P0 P2 K N X l a er) := by
 have hu41 := Try.underlying41
 have hu40 := Try.underlying40
 have S0 := Aside0.mk (Bq.made w K N (.slice A0 X.length c0) (.slice A l.length c) a)
 have B0 := Aside0.mk (show Below w.heap.size w ((((w.alloc (sampleR K N (.slice A0 X.length c0))).alloc (wordsR (.slice A l.length c) a)).alloc (sampleR 0 0 (.slice none 0 0))).alloc (wordsR (.slice none 0 0) 0)) from below_alloc (below_alloc (below_alloc (below_alloc (Below.refl _ _) _) _) _) _)
 have V0 := Aside0.mk h0
 have V2 := Aside0.mk h2
 clear h0 h2
 go_enter Try.func14, Try.ntmps14
 go_upto_region 1 with (fail)
 obtain ⟨w0, hw0⟩ : ∃ w0, w0 = ((((w.alloc (sampleR K N (.slice A0 X.length c0))).alloc (wordsR (.slice A l.length c) a)).alloc (sampleR 0 0 (.slice none 0 0))).alloc (wordsR (.slice none 0 0) 0)) := ⟨_, rfl⟩
 obtain ⟨s, hs⟩ : ∃ s, s = w.heap.size := ⟨_, rfl⟩
 rw [← hw0] at S0 B0
 change Code.wp _ _ _ _ ((((w.alloc (sampleR K N (.slice A0 X.length c0))).alloc (wordsR (.slice A l.length c) a)).alloc (sampleR 0 0 (.slice none 0 0))).alloc (wordsR (.slice none 0 0) 0))
 rw [← hw0, ← hs]
 rw [← hs] at S0
 clear hw0
 have HS := Aside0.mk hs
 clear hs
 have ha0 : w0.cell? ⟨s, 0, none⟩ = some (.int .i64 K) := (blk_cell S0.out.a 0).trans rfl
 have ha1 : w0.cell? ⟨s, 1, none⟩ = some (.int .u64 N) := (blk_cell S0.out.a 1).trans rfl
 have ha2 : w0.cell? ⟨s, 2, none⟩ = some (.slice A0 X.length c0) := (blk_cell S0.out.a 2).trans rfl
 have VC := Aside0.mk (Kd.C_below (Kd.V_reads' V0.out).2.2 B0.out)
 have VL := Aside0.mk (Kd.V_reads' V0.out).2.1
 rcases h with ⟨hr, rfl⟩ | ⟨hr, ⟨hk, rfl⟩ | ⟨hk, hN, rfl⟩⟩
 ·
  go_upto_region 2 with (go_at_call 18; refine (samphireref16_Right.calls kf K N A0 c0 X false _ VC.out VL.out hr).mono ?_; rintro e w1 ⟨rfl, hb⟩; have S1 := Aside0.mk (S0.out.below hb); have B1 := Aside0.mk (below_step B0.out hb); clear hb; have ha0 : w1.cell? ⟨s, 0, none⟩ = some (.int .i64 K) := (blk_cell S1.out.a 0).trans rfl; have ha1 : w1.cell? ⟨s, 1, none⟩ = some (.int .u64 N) := (blk_cell S1.out.a 1).trans rfl; have ha2 : w1.cell? ⟨s, 2, none⟩ = some (.slice A0 X.length c0) := (blk_cell S1.out.a 2).trans rfl)
  have QA := Aside0.mk S1.out.a
  have QW := Aside0.mk S1.out.o
  have Q6 := Aside0.mk S1.out.r
  have Q7 := Aside0.mk S1.out.q
  have hsw : w.heap.size ≤ s := Nat.le_of_eq HS.out.symm
  clear ha0 ha1 ha2
  have a0 : w1.cell? ⟨s, 0, none⟩ = some (.int .i64 K) := (blk_cell QA.out 0).trans rfl
  have a1 : w1.cell? ⟨s, 1, none⟩ = some (.int .u64 N) := (blk_cell QA.out 1).trans rfl
  have a2 : w1.cell? ⟨s, 2, none⟩ = some (.slice A0 X.length c0) := (blk_cell QA.out 2).trans rfl
  have b0 : w1.cell? ⟨s + 1, 0, none⟩ = some (.slice A l.length c) := (blk_cell QW.out 0).trans rfl
  have b1 : w1.cell? ⟨s + 1, 1, none⟩ = some (.int .i64 a) := (blk_cell QW.out 1).trans rfl
  have h60 : w1.cell? ⟨s + 1 + 1, 0, none⟩ = some (.int .i64 0) := (blk_cell Q6.out 0).trans rfl
  have h61 : w1.cell? ⟨s + 1 + 1, 1, none⟩ = some (.int .u64 0) := (blk_cell Q6.out 1).trans rfl
  have h62 : w1.cell? ⟨s + 1 + 1, 2, none⟩ = some (.slice none 0 0) := (blk_cell Q6.out 2).trans rfl
  have h70 : w1.cell? ⟨s + 1 + 1 + 1, 0, none⟩ = some (.slice none 0 0) := (blk_cell Q7.out 0).trans rfl
  have h71 : w1.cell? ⟨s + 1 + 1 + 1, 1, none⟩ = some (.int .i64 0) := (blk_cell Q7.out 1).trans rfl
  have f60 := blk_frozen Q6.out 0
  have f61 := blk_frozen Q6.out 1
  have f62 := blk_frozen Q6.out 2
  have f70 := blk_frozen Q7.out 0
  have f71 := blk_frozen Q7.out 1
  go_region_held3 (fun w' => w'.cell? ⟨s, 0, none⟩ = some (.int .i64 K) ∧ w'.cell? ⟨s, 1, none⟩ = some (.int .u64 N) ∧ w'.cell? ⟨s, 2, none⟩ = some (.slice A0 X.length c0) ∧ w'.cell? ⟨s + 1, 0, none⟩ = some (.slice A l.length c) ∧ w'.cell? ⟨s + 1, 1, none⟩ = some (.int .i64 a))
   ((refine heldR (?_ : _ = some (sampleR K N (.slice A0 X.length c0))) (?_ : _ = some (wordsR (.slice A l.length c) a)) <;> repeat (with_reducible first | exact QA.out | exact QW.out | refine blk_drew ?_ | refine blk_far ?_ (by dsimp only; omega) _)))
   (fail)
  all_goals
   go_wp2
   refine bodyPost_ret (results_list (rs := [.cell 6 41, .cell 7 40, .tmp 8]) rfl (by simp) (.cell (s + 1 + 1) 41 #[.int .i64 K, .int .u64 N, (.slice A0 X.length c0)] (0, 0) _ rfl ?b6 Try.underlying41 rfl (by kernel_rfl) (.cell (s + 1 + 1 + 1) 40 #[(.slice A l.length c), .int .i64 a] (0, 0) _ rfl ?b7 Try.underlying40 rfl (by kernel_rfl) (.tmp .nil)))) rfl ?post
   case b6 => first
    | exact blk_drew (blk_far (blk_far (put41 Q6.out K N (.slice A0 X.length c0)) (by simp) _) (by simp) _)
    | exact blk_drew (put41 (blk_far (blk_far Q6.out (by simp) _) (by simp) _) K N (.slice A0 X.length c0))
   case b7 => first
    | exact blk_drew (put40 (blk_far (blk_far (blk_far Q7.out (by simp) _) (by simp) _) (by simp) _) (.slice A l.length c) a)
    | exact blk_drew (blk_far (blk_far (blk_far (put40 Q7.out (.slice A l.length c) a) (by simp) _) (by simp) _) (by simp) _)
   case post =>
    exact rpost_same V0.out V2.out (below_drew1 (set5 B1.out (by dsimp only; omega) (by dsimp only; omega) (by dsimp only; omega) (by dsimp only; omega) (by dsimp only; omega)))
 ·
  have hk2 : decide ((64 : Int) < (key.size : Int)) = true := decide_eq_true (by omega)
  go_upto_region 4 with (go_at_call 18; refine (samphireref16_Right.calls kf K N A0 c0 X true _ VC.out VL.out hr).mono ?_; rintro e w1 ⟨rfl, hb⟩; have S1 := Aside0.mk (S0.out.below hb); have B1 := Aside0.mk (below_step B0.out hb); clear hb; have ha0 : w1.cell? ⟨s, 0, none⟩ = some (.int .i64 K) := (blk_cell S1.out.a 0).trans rfl; have ha1 : w1.cell? ⟨s, 1, none⟩ = some (.int .u64 N) := (blk_cell S1.out.a 1).trans rfl; have ha2 : w1.cell? ⟨s, 2, none⟩ = some (.slice A0 X.length c0) := (blk_cell S1.out.a 2).trans rfl)
  have QA := Aside0.mk S1.out.a
  have QW := Aside0.mk S1.out.o
  have Q6 := Aside0.mk S1.out.r
  have Q7 := Aside0.mk S1.out.q
  have hsw : w.heap.size ≤ s := Nat.le_of_eq HS.out.symm
  clear ha0 ha1 ha2
  have a0 : w1.cell? ⟨s, 0, none⟩ = some (.int .i64 K) := (blk_cell QA.out 0).trans rfl
  have a1 : w1.cell? ⟨s, 1, none⟩ = some (.int .u64 N) := (blk_cell QA.out 1).trans rfl
  have a2 : w1.cell? ⟨s, 2, none⟩ = some (.slice A0 X.length c0) := (blk_cell QA.out 2).trans rfl
  have b0 : w1.cell? ⟨s + 1, 0, none⟩ = some (.slice A l.length c) := (blk_cell QW.out 0).trans rfl
  have b1 : w1.cell? ⟨s + 1, 1, none⟩ = some (.int .i64 a) := (blk_cell QW.out 1).trans rfl
  have h60 : w1.cell? ⟨s + 1 + 1, 0, none⟩ = some (.int .i64 0) := (blk_cell Q6.out 0).trans rfl
  have h61 : w1.cell? ⟨s + 1 + 1, 1, none⟩ = some (.int .u64 0) := (blk_cell Q6.out 1).trans rfl
  have h62 : w1.cell? ⟨s + 1 + 1, 2, none⟩ = some (.slice none 0 0) := (blk_cell Q6.out 2).trans rfl
  have h70 : w1.cell? ⟨s + 1 + 1 + 1, 0, none⟩ = some (.slice none 0 0) := (blk_cell Q7.out 0).trans rfl
  have h71 : w1.cell? ⟨s + 1 + 1 + 1, 1, none⟩ = some (.int .i64 0) := (blk_cell Q7.out 1).trans rfl
  have f60 := blk_frozen Q6.out 0
  have f61 := blk_frozen Q6.out 1
  have f62 := blk_frozen Q6.out 2
  have f70 := blk_frozen Q7.out 0
  have f71 := blk_frozen Q7.out 1
  go_region_held3 (fun w' => w'.cell? ⟨s, 0, none⟩ = some (.int .i64 K) ∧ w'.cell? ⟨s, 1, none⟩ = some (.int .u64 N) ∧ w'.cell? ⟨s, 2, none⟩ = some (.slice A0 X.length c0) ∧ w'.cell? ⟨s + 1, 0, none⟩ = some (.slice A l.length c) ∧ w'.cell? ⟨s + 1, 1, none⟩ = some (.int .i64 a))
   ((refine heldR (?_ : _ = some (sampleR K N (.slice A0 X.length c0))) (?_ : _ = some (wordsR (.slice A l.length c) a)) <;> repeat (with_reducible first | exact QA.out | exact QW.out | refine blk_drew ?_ | refine blk_far ?_ (by dsimp only; omega) _)))
   (fail)
  all_goals
   go_wp2
   refine bodyPost_ret (results_list (rs := [.cell 6 41, .cell 7 40, .tmp 8]) rfl (by simp) (.cell (s + 1 + 1) 41 #[.int .i64 K, .int .u64 N, (.slice A0 X.length c0)] (0, 0) _ rfl ?b6 Try.underlying41 rfl (by kernel_rfl) (.cell (s + 1 + 1 + 1) 40 #[(.slice A l.length c), .int .i64 a] (0, 0) _ rfl ?b7 Try.underlying40 rfl (by kernel_rfl) (.tmp .nil)))) rfl ?post
   case b6 => first
    | exact blk_drew (blk_far (blk_far (put41 Q6.out K N (.slice A0 X.length c0)) (by simp) _) (by simp) _)
    | exact blk_drew (put41 (blk_far (blk_far Q6.out (by simp) _) (by simp) _) K N (.slice A0 X.length c0))
   case b7 => first
    | exact blk_drew (put40 (blk_far (blk_far (blk_far Q7.out (by simp) _) (by simp) _) (by simp) _) (.slice A l.length c) a)
    | exact blk_drew (blk_far (blk_far (blk_far (put40 Q7.out (.slice A l.length c) a) (by simp) _) (by simp) _) (by simp) _)
   case post =>
    exact rpost_same V0.out V2.out (below_drew1 (set5 B1.out (by dsimp only; omega) (by dsimp only; omega) (by dsimp only; omega) (by dsimp only; omega) (by dsimp only; omega)))
 ·
  have hk2 : decide ((64 : Int) < (key.size : Int)) = false := decide_eq_false (by omega)
  have hN2 : (N == 4611686018427387904) = true := by rw [hN]; rfl
  clear hN
  go_upto_region 6 with (go_at_call 18; refine (samphireref16_Right.calls kf K N A0 c0 X true _ VC.out VL.out hr).mono ?_; rintro e w1 ⟨rfl, hb⟩; have S1 := Aside0.mk (S0.out.below hb); have B1 := Aside0.mk (below_step B0.out hb); clear hb; have ha0 : w1.cell? ⟨s, 0, none⟩ = some (.int .i64 K) := (blk_cell S1.out.a 0).trans rfl; have ha1 : w1.cell? ⟨s, 1, none⟩ = some (.int .u64 N) := (blk_cell S1.out.a 1).trans rfl; have ha2 : w1.cell? ⟨s, 2, none⟩ = some (.slice A0 X.length c0) := (blk_cell S1.out.a 2).trans rfl)
  have QA := Aside0.mk S1.out.a
  have QW := Aside0.mk S1.out.o
  have Q6 := Aside0.mk S1.out.r
  have Q7 := Aside0.mk S1.out.q
  have hsw : w.heap.size ≤ s := Nat.le_of_eq HS.out.symm
  clear ha0 ha1 ha2
  have a0 : w1.cell? ⟨s, 0, none⟩ = some (.int .i64 K) := (blk_cell QA.out 0).trans rfl
  have a1 : w1.cell? ⟨s, 1, none⟩ = some (.int .u64 N) := (blk_cell QA.out 1).trans rfl
  have a2 : w1.cell? ⟨s, 2, none⟩ = some (.slice A0 X.length c0) := (blk_cell QA.out 2).trans rfl
  have b0 : w1.cell? ⟨s + 1, 0, none⟩ = some (.slice A l.length c) := (blk_cell QW.out 0).trans rfl
  have b1 : w1.cell? ⟨s + 1, 1, none⟩ = some (.int .i64 a) := (blk_cell QW.out 1).trans rfl
  have h60 : w1.cell? ⟨s + 1 + 1, 0, none⟩ = some (.int .i64 0) := (blk_cell Q6.out 0).trans rfl
  have h61 : w1.cell? ⟨s + 1 + 1, 1, none⟩ = some (.int .u64 0) := (blk_cell Q6.out 1).trans rfl
  have h62 : w1.cell? ⟨s + 1 + 1, 2, none⟩ = some (.slice none 0 0) := (blk_cell Q6.out 2).trans rfl
  have h70 : w1.cell? ⟨s + 1 + 1 + 1, 0, none⟩ = some (.slice none 0 0) := (blk_cell Q7.out 0).trans rfl
  have h71 : w1.cell? ⟨s + 1 + 1 + 1, 1, none⟩ = some (.int .i64 0) := (blk_cell Q7.out 1).trans rfl
  have f60 := blk_frozen Q6.out 0
  have f61 := blk_frozen Q6.out 1
  have f62 := blk_frozen Q6.out 2
  have f70 := blk_frozen Q7.out 0
  have f71 := blk_frozen Q7.out 1
  go_region_held3 (fun w' => w'.cell? ⟨s, 0, none⟩ = some (.int .i64 K) ∧ w'.cell? ⟨s, 1, none⟩ = some (.int .u64 N) ∧ w'.cell? ⟨s, 2, none⟩ = some (.slice A0 X.length c0) ∧ w'.cell? ⟨s + 1, 0, none⟩ = some (.slice A l.length c) ∧ w'.cell? ⟨s + 1, 1, none⟩ = some (.int .i64 a))
   ((refine heldR (?_ : _ = some (sampleR K N (.slice A0 X.length c0))) (?_ : _ = some (wordsR (.slice A l.length c) a)) <;> repeat (with_reducible first | exact QA.out | exact QW.out | refine blk_drew ?_ | refine blk_far ?_ (by dsimp only; omega) _)))
   (fail)
  all_goals
   go_wp2
   refine bodyPost_ret (results_list (rs := [.cell 6 41, .cell 7 40, .tmp 8]) rfl (by simp) (.cell (s + 1 + 1) 41 #[.int .i64 K, .int .u64 N, (.slice A0 X.length c0)] (0, 0) _ rfl ?b6 Try.underlying41 rfl (by kernel_rfl) (.cell (s + 1 + 1 + 1) 40 #[(.slice A l.length c), .int .i64 a] (0, 0) _ rfl ?b7 Try.underlying40 rfl (by kernel_rfl) (.tmp .nil)))) rfl ?post
   case b6 => first
    | exact blk_drew (blk_far (blk_far (put41 Q6.out K N (.slice A0 X.length c0)) (by simp) _) (by simp) _)
    | exact blk_drew (put41 (blk_far (blk_far Q6.out (by simp) _) (by simp) _) K N (.slice A0 X.length c0))
   case b7 => first
    | exact blk_drew (put40 (blk_far (blk_far (blk_far Q7.out (by simp) _) (by simp) _) (by simp) _) (.slice A l.length c) a)
    | exact blk_drew (blk_far (blk_far (blk_far (put40 Q7.out (.slice A l.length c) a) (by simp) _) (by simp) _) (by simp) _)
   case post =>
    exact rpost_same V0.out V2.out (below_drew1 (set5 B1.out (by dsimp only; omega) (by dsimp only; omega) (by dsimp only; omega) (by dsimp only; omega) (by dsimp only; omega)))
set_option maxRecDepth 100000 in
set_option maxHeartbeats 4000000 in
theorem radd_ok (kf : Nat) (K N : Int) (P0 : Nat → Prop) (A0 : Option Addr) (c0 : Nat) (X : List ByteArray) (key : ByteArray) (P2 : Nat → Prop) (A : Option Addr) (c : Nat) (l : List Int) (a : Int) (r2 : Int) (r3 : List ByteArray) (r5 r6 : Int) (w : World)
  (h0 : Kd.V Kd.string 9 w w.heap.size P0 (.slice A0 X.length c0) X) (h2 : Kd.V (Kd.int .u64) 23 w w.heap.size P2 (.slice A l.length c) l)
  (hr : samphireref16_Right.f kf K N X = some true) (hk : key.size ≤ 64) (hN : N ≠ 4611686018427387904) (hX : X.length ≤ 1024) (hK1 : 1 ≤ K) (hK2 : K ≤ 1024)
  (h : (N < K ∧ IntKind.u64.wrap (N + 1) = r2 ∧ X ++ [key] = r3 ∧ a = r5 ∧ 0 = r6) ∨
   (¬ N < K ∧ ∃ j b e, samphireref16_below.f kf l a (IntKind.u64.wrap (N + 1)) = some (j, l, b, e) ∧ ((e ≠ 0 ∧ N = r2 ∧ X = r3 ∧ a = r5 ∧ e = r6) ∨
    (e = 0 ∧ 0 ≤ j ∧ IntKind.u64.wrap (N + 1) = r2 ∧ b = r5 ∧ 0 = r6 ∧ ((j < K ∧ j < X.length ∧ X.set j.toNat key = r3) ∨ (¬ j < K ∧ X = r3)))))) :
  Calls Try.prog 14 (raddArgs K N A0 c0 X key A c l a) w (RPost w P0 P2 K r2 r3 l r5 r6) := by
 have hu41 := Try.underlying41
 have hu40 := Try.underlying40
 have S0 := Aside0.mk (Bq.made w K N (.slice A0 X.length c0) (.slice A l.length c) a)
 have B0 := Aside0.mk (show Below w.heap.size w ((((w.alloc (sampleR K N (.slice A0 X.length c0))).alloc (wordsR (.slice A l.length c) a)).alloc (sampleR 0 0 (.slice none 0 0))).alloc (wordsR (.slice none 0 0) 0)) from below_alloc (below_alloc (below_alloc (below_alloc (Below.refl _ _) _) _) _) _)
 have V0 := Aside0.mk h0
 have V2 := Aside0.mk h2
 have HH := Lib.hid h
 have hN2 : (N == 4611686018427387904) = false := by simpa using hN
 have hk2 : decide ((64 : Int) < (key.size : Int)) = false := decide_eq_false (by omega)
 clear h0 h2 h hN
 go_enter Try.func14, Try.ntmps14
 go_upto_region 1 with (fail)
 obtain ⟨w0, hw0⟩ : ∃ w0, w0 = ((((w.alloc (sampleR K N (.slice A0 X.length c0))).alloc (wordsR (.slice A l.length c) a)).alloc (sampleR 0 0 (.slice none 0 0))).alloc (wordsR (.slice none 0 0) 0)) := ⟨_, rfl⟩
 obtain ⟨s, hs⟩ : ∃ s, s = w.heap.size := ⟨_, rfl⟩
 rw [← hw0] at S0 B0
 change Code.wp _ _ _ _ ((((w.alloc (sampleR K N (.slice A0 X.length c0))).alloc (wordsR (.slice A l.length c) a)).alloc (sampleR 0 0 (.slice none 0 0))).alloc (wordsR (.slice none 0 0) 0))
 rw [← hw0, ← hs]
 rw [← hs] at S0
 clear hw0
 have hsw : w.heap.size ≤ s := Nat.le_of_eq hs.symm
 clear hs
 have ha0 : w0.cell? ⟨s, 0, none⟩ = some (.int .i64 K) := (blk_cell S0.out.a 0).trans rfl
 have ha1 : w0.cell? ⟨s, 1, none⟩ = some (.int .u64 N) := (blk_cell S0.out.a 1).trans rfl
 have ha2 : w0.cell? ⟨s, 2, none⟩ = some (.slice A0 X.length c0) := (blk_cell S0.out.a 2).trans rfl
 have VC := Aside0.mk (Kd.C_below (Kd.V_reads' V0.out).2.2 B0.out)
 have VL := Aside0.mk (Kd.V_reads' V0.out).2.1
 go_upto_region 8 with (go_at_call 18; refine (samphireref16_Right.calls kf K N A0 c0 X true _ VC.out VL.out hr).mono ?_; rintro e w1 ⟨rfl, hb⟩; have S1 := Aside0.mk (S0.out.below hb); have B1 := Aside0.mk (below_step B0.out hb); clear hb; have ha0 : w1.cell? ⟨s, 0, none⟩ = some (.int .i64 K) := (blk_cell S1.out.a 0).trans rfl; have ha1 : w1.cell? ⟨s, 1, none⟩ = some (.int .u64 N) := (blk_cell S1.out.a 1).trans rfl; have ha2 : w1.cell? ⟨s, 2, none⟩ = some (.slice A0 X.length c0) := (blk_cell S1.out.a 2).trans rfl)
 obtain ⟨w2, hw2⟩ : ∃ w2, w2 = w1.alloc (sampleR K (IntKind.u64.wrap (N + 1)) (.slice none 0 0)) := ⟨_, rfl⟩
 have S2 := Aside0.mk (S1.out.below (below_alloc (Below.refl _ _) (sampleR K (IntKind.u64.wrap (N + 1)) (.slice none 0 0))))
 have B2 := Aside0.mk (below_alloc B1.out (sampleR K (IntKind.u64.wrap (N + 1)) (.slice none 0 0)))
 have O2 := Aside0.mk (blk_new w1 (sampleR K (IntKind.u64.wrap (N + 1)) (.slice none 0 0)))
 have lgo := blk_lt S1.out.q
 change Code.wp _ _ _ _ (w1.alloc (sampleR K (IntKind.u64.wrap (N + 1)) (.slice none 0 0)))
 rw [← hw2] at S2 B2 O2
 rw [← hw2]
 clear hw2 S1 B1 S0 B0 ha0 ha1 ha2 VC
 generalize w1.heap.size = go at *
 have lw2 := blk_lt O2.out
 have ha2 : w2.cell? ⟨s, 2, none⟩ = some (.slice A0 X.length c0) := (blk_cell S2.out.a 2).trans rfl
 have hg2 : w2.cell? ⟨go, 2, none⟩ = some (.slice none 0 0) := (blk_cell O2.out 2).trans rfl
 go_upto_region 9 with (at_builtin; refine Kd.R_append_row Value.string (⟨#[]⟩ : ByteArray) (w0 := w2) w2.heap.size (by rfl) (.tmp 35) (.tmp 37) 24 9 (.string ⟨#[]⟩) 16 rfl Try.underlying24 Go.Proofs.Ythgacimoifbhiaa.Q.info9 rfl (by decide) (.slice none 0 0) ([] : List ByteArray) X A0 X.length c0 (fun k => w2.heap.size ≤ k) rfl rfl (fun k hk => hk) (Kd.R_nil _ _ _ _ _) (Kd.C_below (Kd.V_reads' V0.out).2.2 B2.out) (Below.refl _ _) (Nat.le_refl _) (by simp; omega) ?_; intro v3 w3 ho3 hb3 hg3 hat3; rw [List.nil_append] at ho3; obtain ⟨A3, c3, rfl⟩ := Kd.R_slice ho3; have HO3 := Aside0.mk ho3; have HB3 := Aside0.mk hb3; have S3 := Aside0.mk (S2.out.below hb3); have O3 := Aside0.mk (blk_below O2.out hb3); have hg2 : w3.cell? ⟨go, 2, none⟩ = some (.slice none 0 0) := (blk_cell O3.out 2).trans rfl; have fg2 := blk_frozen O3.out 2; clear ho3 hb3 hg3 hat3)
 obtain ⟨w4, hw4⟩ : ∃ w4, w4 = w3.setCell ⟨go, 2, none⟩ (.slice A3 X.length c3) := ⟨_, rfl⟩
 have S4 := Aside0.mk (Bq.mk (blk_far S3.out.a (by dsimp only; omega) _) (blk_far S3.out.o (by dsimp only; omega) _) (blk_far S3.out.r (by dsimp only; omega) _) (blk_far S3.out.q (by dsimp only; omega) _) : Bq (w3.setCell ⟨go, 2, none⟩ (.slice A3 X.length c3)) s K N (.slice A0 X.length c0) (.slice A l.length c) a)
 have O4 := Aside0.mk (show (w3.setCell ⟨go, 2, none⟩ (.slice A3 X.length c3)).heap[go]? = some (sampleR K (IntKind.u64.wrap (N + 1)) (.slice A3 X.length c3)) from blk_put (cs := #[.int .i64 K, .int .u64 (IntKind.u64.wrap (N + 1)), .slice none 0 0]) O3.out 2 _ rfl)
 have B4 := Aside0.mk (show Below w.heap.size w (w3.setCell ⟨go, 2, none⟩ (.slice A3 X.length c3)) from (below_step B2.out HB3.out).setCell (by dsimp only; omega) _)
 have R4 := Aside0.mk (Kd.R_far (p := ⟨go, 2, none⟩) HO3.out (fun k hk => by have h5 : w2.heap.size ≤ k := hk; dsimp only; omega) (.slice A3 X.length c3))
 have hs4 : s + 1 + 1 + 1 < go := lgo
 have hz4 := Aside0.mk (show w2.heap.size ≤ (w3.setCell ⟨go, 2, none⟩ (.slice A3 X.length c3)).heap.size by have := HB3.out.size; simpa [World.setCell] using this)
 change Code.wp _ _ _ _ (w3.setCell ⟨go, 2, none⟩ (.slice A3 X.length c3))
 rw [← hw4] at S4 O4 B4 R4 hz4
 rw [← hw4]
 have B2s := Aside0.mk (B2.out.size)
 clear hw4 S2 B2 O2 HO3 HB3 S3 O3 ha2 hg2 fg2
 have ha0 : w4.cell? ⟨s, 0, none⟩ = some (.int .i64 K) := (blk_cell S4.out.a 0).trans rfl
 have ha1 : w4.cell? ⟨s, 1, none⟩ = some (.int .u64 N) := (blk_cell S4.out.a 1).trans rfl
 have hKw : IntKind.u64.wrap K = K := by rw [IntKind.wrap_u64]; omega
 have QL4 := Aside0.mk (show Kd.V (Kd.int .u64) 23 w4 0 (fun k => P2 k ∧ k < w.heap.size) (.slice A l.length c) l from Kd.V_map (Kd.V_below (Kd.V_bound V2.out) B4.out) (fun _ h => h))
 rcases HH.out with ⟨hlt, rfl, rfl, rfl, rfl⟩ | ⟨hlt, j, b, e, hbl, hout⟩
 ·
  have hlt2 : decide (N < K) = true := decide_eq_true hlt
  have hg2 : w4.cell? ⟨go, 2, none⟩ = some (.slice A3 X.length c3) := (blk_cell O4.out 2).trans rfl
  have fg2 := blk_frozen O4.out 2
  go_upto_region 11 with (at_builtin; refine Kd.R_append Kd.string (w0 := w4) w2.heap.size (by rfl) (.tmp 47) (.tmp 49) 24 9 (.string ⟨#[]⟩) 16 rfl Try.underlying24 Go.Proofs.Ythgacimoifbhiaa.Q.info9 rfl (by decide) (by decide) (.slice A3 X.length c3) X key [.string key] (fun k => w2.heap.size ≤ k) (fun _ => False) (by rfl) (by rfl) ?aP (fun _ hk => hk.elim) (fun k hk => Nat.le_trans hz4.out hk) R4.out (Below.refl _ _) hz4.out (by omega) ?_; (case aP => exact rfl); intro v5 w5 ho5 hb5 hg5 hat5; obtain ⟨A5, c5, rfl⟩ := Kd.R_slice ho5; have HO5 := Aside0.mk ho5; have HB5 := Aside0.mk hb5; have ne5 : ∀ g, g < w2.heap.size → some g ≠ (Value.slice A3 X.length c3).ownBlock := (fun g hg e => by have := Kd.R_base R4.out g e.symm; omega); have S5 := Aside0.mk (Bq.mk (blk_grown S4.out.a hg5 (ne5 _ (by omega))) (blk_grown S4.out.o hg5 (ne5 _ (by omega))) (blk_grown S4.out.r hg5 (ne5 _ (by omega))) (blk_grown S4.out.q hg5 (ne5 _ (by omega)))); have O5 := Aside0.mk (blk_grown O4.out hg5 (ne5 _ (by omega))); have BB5 := Aside0.mk (B4.out.grown hg5 B4.out.size (fun k hk => by have := Kd.R_base R4.out k hk; have := B2s.out; omega)); have hg2 : w5.cell? ⟨go, 2, none⟩ = some (.slice A3 X.length c3) := (blk_cell O5.out 2).trans rfl; have fg2 := blk_frozen O5.out 2; clear ho5 hb5 hat5)
  rw [List.length_append, List.length_singleton] at HO5
  obtain ⟨w6, hw6⟩ : ∃ w6, w6 = w5.setCell ⟨go, 2, none⟩ (.slice A5 (X.length + 1) c5) := ⟨_, rfl⟩
  have B6 := Aside0.mk (show Below w.heap.size w (w5.setCell ⟨go, 2, none⟩ (.slice A5 (X.length + 1) c5)) from BB5.out.setCell (by dsimp only; omega) _)
  have QA := Aside0.mk (show (w5.setCell ⟨go, 2, none⟩ (.slice A5 (X.length + 1) c5)).heap[go]? = some (sampleR K (IntKind.u64.wrap (N + 1)) (.slice A5 (X.length + 1) c5)) from blk_put (cs := #[.int .i64 K, .int .u64 (IntKind.u64.wrap (N + 1)), .slice A3 X.length c3]) O5.out 2 _ rfl)
  have QW := Aside0.mk (show (w5.setCell ⟨go, 2, none⟩ (.slice A5 (X.length + 1) c5)).heap[s + 1]? = some (wordsR (.slice A l.length c) a) from blk_far S5.out.o (by dsimp only; omega) _)
  have Q6 := Aside0.mk (show (w5.setCell ⟨go, 2, none⟩ (.slice A5 (X.length + 1) c5)).heap[s + 1 + 1]? = some (sampleR 0 0 (.slice none 0 0)) from blk_far S5.out.r (by dsimp only; omega) _)
  have Q7 := Aside0.mk (show (w5.setCell ⟨go, 2, none⟩ (.slice A5 (X.length + 1) c5)).heap[s + 1 + 1 + 1]? = some (wordsR (.slice none 0 0) 0) from blk_far S5.out.q (by dsimp only; omega) _)
  have QV := Aside0.mk (show Kd.V Kd.string 9 (w5.setCell ⟨go, 2, none⟩ (.slice A5 (X.length + 1) c5)) 0 (Fq w P0 P2 s) (.slice A5 (X.length + 1) c5) (X ++ [key]) from
   Kd.V_mono (Kd.V_map (Kd.R_V (base' := 0) (Kd.R_far (p := ⟨go, 2, none⟩) HO5.out (fun k hk => by have h5 : w2.heap.size ≤ k := hk; dsimp only; omega) _)) (fun _ h => h)) (fun k hk => ⟨by have h5 : w2.heap.size ≤ k := hk; omega, by have h5 : w2.heap.size ≤ k := hk; omega, .inr (by have h5 : w2.heap.size ≤ k := hk; have := B2s.out; omega)⟩))
  have QL := Aside0.mk (show Kd.V (Kd.int .u64) 23 (w5.setCell ⟨go, 2, none⟩ (.slice A5 (X.length + 1) c5)) 0 (Fq w P0 P2 s) (.slice A l.length c) l from
   Kd.V_mono (Kd.V_map (Kd.V_below (Kd.V_bound V2.out) B6.out) (fun _ h => h)) (fun k hk => ⟨by have := hk.2; omega, by have := hk.2; omega, .inl (.inr hk.1)⟩))
  change Code.wp _ _ _ _ (w5.setCell ⟨go, 2, none⟩ (.slice A5 (X.length + 1) c5))
  rw [← hw6] at B6 QA QW Q6 Q7 QV QL
  rw [← hw6]
  clear hw6 S5 O5 BB5 HO5 HB5 ne5 hg5 S4 O4 B4 R4 hz4 QL4 hg2 fg2 ha0 ha1
  have a0 : w6.cell? ⟨go, 0, none⟩ = some (.int .i64 K) := (blk_cell QA.out 0).trans rfl
  have a1 : w6.cell? ⟨go, 1, none⟩ = some (.int .u64 (IntKind.u64.wrap (N + 1))) := (blk_cell QA.out 1).trans rfl
  have a2 : w6.cell? ⟨go, 2, none⟩ = some (.slice A5 (X.length + 1) c5) := (blk_cell QA.out 2).trans rfl
  have b0 : w6.cell? ⟨s + 1, 0, none⟩ = some (.slice A l.length c) := (blk_cell QW.out 0).trans rfl
  have b1 : w6.cell? ⟨s + 1, 1, none⟩ = some (.int .i64 a) := (blk_cell QW.out 1).trans rfl
  have h60 : w6.cell? ⟨s + 1 + 1, 0, none⟩ = some (.int .i64 0) := (blk_cell Q6.out 0).trans rfl
  have h61 : w6.cell? ⟨s + 1 + 1, 1, none⟩ = some (.int .u64 0) := (blk_cell Q6.out 1).trans rfl
  have h62 : w6.cell? ⟨s + 1 + 1, 2, none⟩ = some (.slice none 0 0) := (blk_cell Q6.out 2).trans rfl
  have h70 : w6.cell? ⟨s + 1 + 1 + 1, 0, none⟩ = some (.slice none 0 0) := (blk_cell Q7.out 0).trans rfl
  have h71 : w6.cell? ⟨s + 1 + 1 + 1, 1, none⟩ = some (.int .i64 0) := (blk_cell Q7.out 1).trans rfl
  have f60 := blk_frozen Q6.out 0
  have f61 := blk_frozen Q6.out 1
  have f62 := blk_frozen Q6.out 2
  have f70 := blk_frozen Q7.out 0
  have f71 := blk_frozen Q7.out 1
  go_region_held3 (fun w' => w'.cell? ⟨go, 0, none⟩ = some (.int .i64 K) ∧ w'.cell? ⟨go, 1, none⟩ = some (.int .u64 (IntKind.u64.wrap (N + 1))) ∧ w'.cell? ⟨go, 2, none⟩ = some (.slice A5 (X.length + 1) c5) ∧ w'.cell? ⟨s + 1, 0, none⟩ = some (.slice A l.length c) ∧ w'.cell? ⟨s + 1, 1, none⟩ = some (.int .i64 a))
   ((refine heldR (?_ : _ = some (sampleR K (IntKind.u64.wrap (N + 1)) (.slice A5 (X.length + 1) c5))) (?_ : _ = some (wordsR (.slice A l.length c) a)) <;> repeat (with_reducible first | exact QA.out | exact QW.out | refine blk_drew ?_ | refine blk_far ?_ (by dsimp only; omega) _)))
   (fail)
  all_goals
   go_wp2
   refine bodyPost_ret (results_list (rs := [.cell 6 41, .cell 7 40, .tmp 8]) rfl (by simp) (.cell (s + 1 + 1) 41 #[.int .i64 K, .int .u64 (IntKind.u64.wrap (N + 1)), (.slice A5 (X.length + 1) c5)] (0, 0) _ rfl ?b6 Try.underlying41 rfl (by kernel_rfl) (.cell (s + 1 + 1 + 1) 40 #[(.slice A l.length c), .int .i64 a] (0, 0) _ rfl ?b7 Try.underlying40 rfl (by kernel_rfl) (.tmp .nil)))) rfl ?post
   case b6 => first
    | exact blk_drew (blk_far (blk_far (put41 Q6.out K (IntKind.u64.wrap (N + 1)) (.slice A5 (X.length + 1) c5)) (by simp) _) (by simp) _)
    | exact blk_drew (put41 (blk_far (blk_far Q6.out (by simp) _) (by simp) _) K (IntKind.u64.wrap (N + 1)) (.slice A5 (X.length + 1) c5))
   case b7 => first
    | exact blk_drew (put40 (blk_far (blk_far (blk_far Q7.out (by simp) _) (by simp) _) (by simp) _) (.slice A l.length c) a)
    | exact blk_drew (blk_far (blk_far (blk_far (put40 Q7.out (.slice A l.length c) a) (by simp) _) (by simp) _) (by simp) _)
   case post =>
    refine rpost_new (s := s) ?_ ?_ (below_drew1 (set5 B6.out (by dsimp only; omega) (by dsimp only; omega) (by dsimp only; omega) (by dsimp only; omega) (by dsimp only; omega)))
    ·
     repeat (with_reducible first | exact QV.out | apply Kd.V_drew | refine Kd.V_far ?_ fq6 _ | refine Kd.V_far ?_ fq7 _)
    ·
     repeat (with_reducible first | exact QL.out | apply Kd.V_drew | refine Kd.V_far ?_ fq6 _ | refine Kd.V_far ?_ fq7 _)
 ·
  have hlt2 : decide (N < K) = false := decide_eq_false (by omega)
  have hb5 : w4.cell? ⟨s + 1, 0, none⟩ = some (.slice A l.length c) := (blk_cell S4.out.o 0).trans rfl
  have hb6 : w4.cell? ⟨s + 1, 1, none⟩ = some (.int .i64 a) := (blk_cell S4.out.o 1).trans rfl
  go_upto_region 13 with (go_at_call 24; refine (samphireref16_below.calls kf (fun k => P2 k ∧ k < w.heap.size) A c l a (IntKind.u64.wrap (N + 1)) j l b e w4 (Kd.V_map QL4.out (fun _ h => h)) hbl).mono ?_; rintro e5 w5 ⟨v5, rfl, hV5, hB5⟩; obtain ⟨A5, c5, rfl⟩ := Kd.V_slice hV5; have V5 := Aside0.mk hV5; have HB5 := Aside0.mk hB5; clear hV5 hB5)
  obtain ⟨w6, hw6⟩ : ∃ w6, w6 = w5.alloc (wordsR (.slice A5 l.length c5) b) := ⟨_, rfl⟩
  have hb6' := below_alloc HB5.out (wordsR (.slice A5 l.length c5) b)
  have S6 := Aside0.mk (S4.out.below hb6')
  have O6 := Aside0.mk (blk_below O4.out hb6')
  have R6 := Aside0.mk (Kd.R_below R4.out hb6')
  have B6 := Aside0.mk (below_step B4.out hb6')
  have N6 := Aside0.mk (blk_new w5 (wordsR (.slice A5 l.length c5) b))
  have lz := B2s.out
  have QL6 := Aside0.mk (show Kd.V (Kd.int .u64) 23 (w5.alloc (wordsR (.slice A5 l.length c5) b)) 0 (fun k => (P2 k ∧ k < w.heap.size) ∨ w4.heap.size ≤ k) (.slice A5 l.length c5) l from Kd.V_alloc (Kd.V_map V5.out (fun _ h => h)) _)
  have lr4 := Kd.R_lt R4.out
  have lz4 := hz4.out
  have QL7 := Aside0.mk (Kd.V_below QL4.out hb6')
  have G6 := Aside0.mk (show w2.heap.size ≤ w5.heap.size ∧ w4.heap.size ≤ w5.heap.size from ⟨Nat.le_trans hz4.out HB5.out.size, HB5.out.size⟩)
  change Code.wp _ _ _ _ (w5.alloc (wordsR (.slice A5 l.length c5) b))
  rw [← hw6] at S6 O6 R6 B6 N6 QL6 QL7
  rw [← hw6]
  clear hw6 hb6' S4 O4 B4 R4 QL4 V5 HB5 ha0 ha1 hb5 hb6 hz4
  generalize w5.heap.size = gv at *
  generalize w4.heap.size = z4 at *
  rcases hout with ⟨he, rfl, rfl, rfl, rfl⟩ | ⟨rfl, hj0, rfl, rfl, rfl, hset⟩
  ·
   have he2 : (e != 0) = true := by simpa using he
   have hV6 := Kd.V_below (Kd.V_bound V0.out) B6.out
   have QV := Aside0.mk (show Kd.V Kd.string 9 w6 0 (Fq w P0 P2 s) (.slice A0 X.length c0) X from Kd.V_mono (Kd.V_map hV6 (fun _ h => h)) (fun k hk => ⟨by have := hk.2; omega, by have := hk.2; omega, .inl (.inl hk.1)⟩))
   have QA := Aside0.mk S6.out.a
   have QW := Aside0.mk S6.out.o
   have Q6 := Aside0.mk S6.out.r
   have Q7 := Aside0.mk S6.out.q
   have QL := Aside0.mk (Kd.V_mono QL7.out (fun k hk => (⟨by have := hk.2; omega, by have := hk.2; omega, .inl (.inr hk.1)⟩ : Fq w P0 P2 s k)))
   clear hV6 S6 O6 R6 N6 QL6 QL7
   go_upto_region 14 with (fail)
   have a0 : w6.cell? ⟨s, 0, none⟩ = some (.int .i64 K) := (blk_cell QA.out 0).trans rfl
   have a1 : w6.cell? ⟨s, 1, none⟩ = some (.int .u64 N) := (blk_cell QA.out 1).trans rfl
   have a2 : w6.cell? ⟨s, 2, none⟩ = some (.slice A0 X.length c0) := (blk_cell QA.out 2).trans rfl
   have b0 : w6.cell? ⟨s + 1, 0, none⟩ = some (.slice A l.length c) := (blk_cell QW.out 0).trans rfl
   have b1 : w6.cell? ⟨s + 1, 1, none⟩ = some (.int .i64 a) := (blk_cell QW.out 1).trans rfl
   have h60 : w6.cell? ⟨s + 1 + 1, 0, none⟩ = some (.int .i64 0) := (blk_cell Q6.out 0).trans rfl
   have h61 : w6.cell? ⟨s + 1 + 1, 1, none⟩ = some (.int .u64 0) := (blk_cell Q6.out 1).trans rfl
   have h62 : w6.cell? ⟨s + 1 + 1, 2, none⟩ = some (.slice none 0 0) := (blk_cell Q6.out 2).trans rfl
   have h70 : w6.cell? ⟨s + 1 + 1 + 1, 0, none⟩ = some (.slice none 0 0) := (blk_cell Q7.out 0).trans rfl
   have h71 : w6.cell? ⟨s + 1 + 1 + 1, 1, none⟩ = some (.int .i64 0) := (blk_cell Q7.out 1).trans rfl
   have f60 := blk_frozen Q6.out 0
   have f61 := blk_frozen Q6.out 1
   have f62 := blk_frozen Q6.out 2
   have f70 := blk_frozen Q7.out 0
   have f71 := blk_frozen Q7.out 1
   go_region_held3 (fun w' => w'.cell? ⟨s, 0, none⟩ = some (.int .i64 K) ∧ w'.cell? ⟨s, 1, none⟩ = some (.int .u64 N) ∧ w'.cell? ⟨s, 2, none⟩ = some (.slice A0 X.length c0) ∧ w'.cell? ⟨s + 1, 0, none⟩ = some (.slice A l.length c) ∧ w'.cell? ⟨s + 1, 1, none⟩ = some (.int .i64 a))
    ((refine heldR (?_ : _ = some (sampleR K N (.slice A0 X.length c0))) (?_ : _ = some (wordsR (.slice A l.length c) a)) <;> repeat (with_reducible first | exact QA.out | exact QW.out | refine blk_drew ?_ | refine blk_far ?_ (by dsimp only; omega) _)))
    (fail)
   all_goals
    go_wp2
    refine bodyPost_ret (results_list (rs := [.cell 6 41, .cell 7 40, .tmp 8]) rfl (by simp) (.cell (s + 1 + 1) 41 #[.int .i64 K, .int .u64 N, (.slice A0 X.length c0)] (0, 0) _ rfl ?b6 Try.underlying41 rfl (by kernel_rfl) (.cell (s + 1 + 1 + 1) 40 #[(.slice A l.length c), .int .i64 a] (0, 0) _ rfl ?b7 Try.underlying40 rfl (by kernel_rfl) (.tmp .nil)))) rfl ?post
    case b6 => first
     | exact blk_drew (blk_far (blk_far (put41 Q6.out K N (.slice A0 X.length c0)) (by simp) _) (by simp) _)
     | exact blk_drew (put41 (blk_far (blk_far Q6.out (by simp) _) (by simp) _) K N (.slice A0 X.length c0))
    case b7 => first
     | exact blk_drew (put40 (blk_far (blk_far (blk_far Q7.out (by simp) _) (by simp) _) (by simp) _) (.slice A l.length c) a)
     | exact blk_drew (blk_far (blk_far (blk_far (put40 Q7.out (.slice A l.length c) a) (by simp) _) (by simp) _) (by simp) _)
    case post =>
      refine rpost_new (s := s) ?_ ?_ (below_drew1 (set5 B6.out (by dsimp only; omega) (by dsimp only; omega) (by dsimp only; omega) (by dsimp only; omega) (by dsimp only; omega)))
      ·
       repeat (with_reducible first | exact QV.out | apply Kd.V_drew | refine Kd.V_far ?_ fq6 _ | refine Kd.V_far ?_ fq7 _)
      ·
       repeat (with_reducible first | exact QL.out | apply Kd.V_drew | refine Kd.V_far ?_ fq6 _ | refine Kd.V_far ?_ fq7 _)
  ·
   have a0 : w6.cell? ⟨s, 0, none⟩ = some (.int .i64 K) := (blk_cell S6.out.a 0).trans rfl
   have hg2 : w6.cell? ⟨go, 2, none⟩ = some (.slice A3 X.length c3) := (blk_cell O6.out 2).trans rfl
   go_upto_if 72 with (fail)
   go_cut [] (fun wc => Aside0 (Bq wc s K N (.slice A0 X.length c0) (.slice A l.length c) a ∧ wc.heap[go]? = some (sampleR K (IntKind.u64.wrap (N + 1)) (.slice A3 X.length c3)) ∧ wc.heap[gv]? = some (wordsR (.slice A5 l.length c5) b)) ∧ Aside0 (Kd.V Kd.string 9 wc 0 (Fq w P0 P2 s) (.slice A3 X.length c3) r3 ∧ Kd.V (Kd.int .u64) 23 wc 0 (Fq w P0 P2 s) (.slice A5 l.length c5) l ∧ Below w.heap.size w wc))
   have qw : ∀ k, (fun k => (P2 k ∧ k < w.heap.size) ∨ z4 ≤ k) k → Fq w P0 P2 s k := fun k hk => hk.elim (fun h => ⟨by have := h.2; omega, by have := h.2; omega, .inl (.inr h.1)⟩) (fun h => ⟨by omega, by omega, .inr (by omega)⟩)
   case first =>
    have q2 : ∀ k, (fun k => w2.heap.size ≤ k) k → Fq w P0 P2 s k := fun k hk => ⟨by have h5 : w2.heap.size ≤ k := hk; omega, by have h5 : w2.heap.size ≤ k := hk; omega, .inr (by have h5 : w2.heap.size ≤ k := hk; omega)⟩
    rcases hset with ⟨hjk, hjx, rfl⟩ | ⟨hjk, rfl⟩
    ·
     have hjk2 : decide (j < K) = true := decide_eq_true hjk
     obtain ⟨g, cp, e3, hbg, hgl, cells, hcells⟩ := Kd.R_form R6.out (by omega)
     cases e3
     obtain ⟨ad, cs, eA, hlen, hK, hcell⟩ := (Kd.R_reads' R6.out).2.2.get_ ByteArray.empty j (by omega) (by omega)
     obtain ⟨x, hx⟩ : ∃ x, X.getD j.toNat ByteArray.empty = x := ⟨_, rfl⟩
     rw [hx] at hK
     obtain rfl : cs = [.string x] := hK
     have hc0 := hcell 0 _ rfl
     have hc1 : w6.cell? (ad.add j.toNat) = some (.string x) := by rw [← Nat.mul_one j.toNat]; exact hc0
     clear hc0
     cases eA
     have fg := blk_frozen hcells j.toNat
     rw [add_plain] at hc1
     have PG := Aside0.mk (Kd.R_putg R6.out j key)
     have QG := Aside0.mk (show Kd.V (Kd.int .u64) 23 w6 0 (fun k => Fq w P0 P2 s k ∧ k ≠ g) (.slice A5 l.length c5) l from Kd.V_mono QL6.out (fun k hk => ⟨qw k hk, fun e => by have := lr4 g rfl; subst e; exact hk.elim (fun h => by have := h.2; omega) (fun h => by omega)⟩))
     clear hcell hlen
     have g6 := G6.out
     have g7 := lr4 g rfl
     have m1 : s ≠ g := by omega
     have m2 : s + 1 ≠ g := by omega
     have m3 : s + 1 + 1 ≠ g := by omega
     have m4 : s + 1 + 1 + 1 ≠ g := by omega
     have m5 : go ≠ g := by omega
     have m6 : gv ≠ g := by omega
     have m7 : w.heap.size ≤ g := by omega
     go_wp2_with (fail)
     go_meet
     case rel => exact ⟨⟨⟨blk_far S6.out.a m1 _, blk_far S6.out.o m2 _, blk_far S6.out.r m3 _, blk_far S6.out.q m4 _⟩, blk_far O6.out m5 _, blk_far N6.out m6 _⟩, ⟨Kd.V_mono (Kd.V_map (Kd.R_V (base' := 0) PG.out.1) (fun _ h => h)) q2, Kd.V_mono (Kd.V_far QG.out (fun k hk => hk.2) _) (fun k hk => hk.1), B6.out.setCell m7 _⟩⟩
    ·
     have hjk2 : decide (j < K) = false := decide_eq_false (by omega)
     go_wp2_with (fail)
     go_meet
     case rel => exact ⟨⟨S6.out, O6.out, N6.out⟩, ⟨Kd.V_mono (Kd.V_map (Kd.R_V (base' := 0) R6.out) (fun _ h => h)) q2, Kd.V_mono QL6.out qw, B6.out⟩⟩
   case rest =>
    obtain ⟨T, U⟩ := hcut
    clear S6 O6 R6 B6 N6 QL6 QL7 a0 hg2
    have QA := Aside0.mk T.out.2.1
    have QW := Aside0.mk T.out.2.2
    have Q6 := Aside0.mk T.out.1.r
    have Q7 := Aside0.mk T.out.1.q
    have QV := Aside0.mk U.out.1
    have QL := Aside0.mk U.out.2.1
    have B6 := Aside0.mk U.out.2.2
    have hgv := blk_lt T.out.2.2
    have g6 := G6.out.1
    go_upto_region 17 with (fail)
    have a0 : wc.cell? ⟨go, 0, none⟩ = some (.int .i64 K) := (blk_cell QA.out 0).trans rfl
    have a1 : wc.cell? ⟨go, 1, none⟩ = some (.int .u64 (IntKind.u64.wrap (N + 1))) := (blk_cell QA.out 1).trans rfl
    have a2 : wc.cell? ⟨go, 2, none⟩ = some (.slice A3 X.length c3) := (blk_cell QA.out 2).trans rfl
    have b0 : wc.cell? ⟨gv, 0, none⟩ = some (.slice A5 l.length c5) := (blk_cell QW.out 0).trans rfl
    have b1 : wc.cell? ⟨gv, 1, none⟩ = some (.int .i64 b) := (blk_cell QW.out 1).trans rfl
    have h60 : wc.cell? ⟨s + 1 + 1, 0, none⟩ = some (.int .i64 0) := (blk_cell Q6.out 0).trans rfl
    have h61 : wc.cell? ⟨s + 1 + 1, 1, none⟩ = some (.int .u64 0) := (blk_cell Q6.out 1).trans rfl
    have h62 : wc.cell? ⟨s + 1 + 1, 2, none⟩ = some (.slice none 0 0) := (blk_cell Q6.out 2).trans rfl
    have h70 : wc.cell? ⟨s + 1 + 1 + 1, 0, none⟩ = some (.slice none 0 0) := (blk_cell Q7.out 0).trans rfl
    have h71 : wc.cell? ⟨s + 1 + 1 + 1, 1, none⟩ = some (.int .i64 0) := (blk_cell Q7.out 1).trans rfl
    have f60 := blk_frozen Q6.out 0
    have f61 := blk_frozen Q6.out 1
    have f62 := blk_frozen Q6.out 2
    have f70 := blk_frozen Q7.out 0
    have f71 := blk_frozen Q7.out 1
    go_region_held3 (fun w' => w'.cell? ⟨go, 0, none⟩ = some (.int .i64 K) ∧ w'.cell? ⟨go, 1, none⟩ = some (.int .u64 (IntKind.u64.wrap (N + 1))) ∧ w'.cell? ⟨go, 2, none⟩ = some (.slice A3 X.length c3) ∧ w'.cell? ⟨gv, 0, none⟩ = some (.slice A5 l.length c5) ∧ w'.cell? ⟨gv, 1, none⟩ = some (.int .i64 b))
     ((refine heldR (?_ : _ = some (sampleR K (IntKind.u64.wrap (N + 1)) (.slice A3 X.length c3))) (?_ : _ = some (wordsR (.slice A5 l.length c5) b)) <;> repeat (with_reducible first | exact QA.out | exact QW.out | refine blk_drew ?_ | refine blk_far ?_ (by dsimp only; omega) _)))
     (fail)
    all_goals
     go_wp2
     refine bodyPost_ret (results_list (rs := [.cell 6 41, .cell 7 40, .tmp 8]) rfl (by simp) (.cell (s + 1 + 1) 41 #[.int .i64 K, .int .u64 (IntKind.u64.wrap (N + 1)), (.slice A3 X.length c3)] (0, 0) _ rfl ?b6 Try.underlying41 rfl (by kernel_rfl) (.cell (s + 1 + 1 + 1) 40 #[(.slice A5 l.length c5), .int .i64 b] (0, 0) _ rfl ?b7 Try.underlying40 rfl (by kernel_rfl) (.tmp .nil)))) rfl ?post
     case b6 => first
      | exact blk_drew (blk_far (blk_far (put41 Q6.out K (IntKind.u64.wrap (N + 1)) (.slice A3 X.length c3)) (by simp) _) (by simp) _)
      | exact blk_drew (put41 (blk_far (blk_far Q6.out (by simp) _) (by simp) _) K (IntKind.u64.wrap (N + 1)) (.slice A3 X.length c3))
     case b7 => first
      | exact blk_drew (put40 (blk_far (blk_far (blk_far Q7.out (by simp) _) (by simp) _) (by simp) _) (.slice A5 l.length c5) b)
      | exact blk_drew (blk_far (blk_far (blk_far (put40 Q7.out (.slice A5 l.length c5) b) (by simp) _) (by simp) _) (by simp) _)
     case post =>
        refine rpost_new (s := s) ?_ ?_ (below_drew1 (set5 B6.out (by dsimp only; omega) (by dsimp only; omega) (by dsimp only; omega) (by dsimp only; omega) (by dsimp only; omega)))
        ·
         repeat (with_reducible first | exact QV.out | apply Kd.V_drew | refine Kd.V_far ?_ fq6 _ | refine Kd.V_far ?_ fq7 _)
        ·
         repeat (with_reducible first | exact QL.out | apply Kd.V_drew | refine Kd.V_far ?_ fq6 _ | refine Kd.V_far ?_ fq7 _)
end Go.Proofs.Ythgacimoifbhiaa
