import Derived.Test.YthgacimoifbhiaaTake
namespace Go.Proofs.Ythgacimoifbhiaa
open Go.RowKit Go.Proofs.Ythgacimoifbhiaa.Q Go.Proofs.YthgacimoifbhiaaW.PrintWords Go.Proofs.YthgacimoifbhiaaW.PrintLast Go.Proofs.YthgacimoifbhiaaW.PrintMore
set_option linter.unusedVariables false
set_option linter.unusedSimpArgs false
set_option maxHeartbeats 2000000 in
theorem take_no {er : Int} (her : (er != 0) = true) (k gx g cap : Nat) (n : Int) (left : List ByteArray) (base : Nat) (ok P : Nat → Prop) (A : Option Addr) (c : Nat) (l : List Int) (a : Int) (w : World)
  (hB : w.heap[gx]? = some (sideO n (.slice (some ⟨g, 0, none⟩) left.length cap)))
  (hR : Kd.R Kd.string 9 w base ok (.slice (some ⟨g, 0, none⟩) left.length cap) left) (hl : left.length < 4611686018427387904)
  (hW : Kd.V (Kd.int .u64) 23 w w.heap.size P (.slice A l.length c) l) (hP : ∀ k, P k → k ≠ gx ∧ k ≠ g ∧ k < w.heap.size)
  (hD : draw_Below.f k l a (left.length : Int) = some (0, l, a, er)) :
  Calls Try.prog 35 #[.pointer (some ⟨gx, 0, none⟩), .agg #[.slice A l.length c, .int .i64 a]] w fun e w' =>
   ∃ v1_ : Value, e = .returned (.tuple #[.string ByteArray.empty, .agg #[v1_, .int .i64 a], .int .i64 er]) ∧ Kd.V (Kd.int .u64) 23 w' w.heap.size (fun k_ => P k_ ∨ w.heap.size ≤ k_) v1_ l ∧ Below w.heap.size w w' := by
 have hg : g < w.heap.size := Kd.R_lt hR g rfl
 have hgx : gx < w.heap.size := blk_lt hB
 have hne : gx ≠ g := by
  intro e
  subst e
  exact absurd rfl (Kd.R_ne hR hB (by decide))
 have hP2 : ∀ k, P k → k ≠ gx ∧ k ≠ g ∧ k ≠ w.heap.size ∧ k ≠ w.heap.size + 1 := fun k hk => ⟨(hP k hk).1, (hP k hk).2.1, by have := (hP k hk).2.2; omega, by have := (hP k hk).2.2; omega⟩
 have sz1 : (w.alloc (wordsO (.slice A l.length c) a)).heap.size = w.heap.size + 1 := by show (w.heap.push _).size = _; simp
 have sz2 : ((w.alloc (wordsO (.slice A l.length c) a)).alloc (wordsO (.slice none 0 0) 0)).heap.size = w.heap.size + 2 := by show ((w.heap.push _).push _).size = _; simp
 have hb1 : Below w.heap.size w ((w.alloc (wordsO (.slice A l.length c) a)).alloc (wordsO (.slice none 0 0) 0)) := below_alloc (below_alloc (Below.refl _ _) _) _
 have S0 : St ((w.alloc (wordsO (.slice A l.length c) a)).alloc (wordsO (.slice none 0 0) 0)) gx g w.heap.size n left.length cap left A c l a base P :=
  ⟨blk_alloc (blk_alloc hB _) _, Kd.R_alloc (Kd.R_alloc (Kd.R_reok rfl hR (fun k hk => (Option.some.inj hk).symm)) _) _, blk_alloc (Deep.blk_alloc_new w _) _, Kd.V_alloc (Kd.V_alloc hW _) _, hP2, ⟨hne, hgx, hg, by omega⟩,
   ⟨.slice none 0 0, 0, by have := Deep.blk_alloc_new (w.alloc (wordsO (.slice A l.length c) a)) (wordsO (.slice none 0 0) 0); rw [sz1] at this; exact this⟩⟩
 have S0 := Aside0.mk S0
 have HB1 := Aside0.mk hb1
 have SZ := Aside0.mk sz2
 clear hb1 sz1 sz2 hB hW
 go_enter Try.func35, Try.ntmps35
 go_upto_region 1 with (fail)
 obtain ⟨w1, hw1⟩ : ∃ w1, w1 = (w.alloc (wordsO (.slice A l.length c) a)).alloc (wordsO (.slice none 0 0) 0) := ⟨_, rfl⟩
 obtain ⟨gw, hgw⟩ : ∃ gw, gw = w.heap.size := ⟨_, rfl⟩
 rw [← hw1] at S0 HB1 SZ
 change Code.wp _ _ _ _ ((w.alloc (wordsO (.slice A l.length c) a)).alloc (wordsO (.slice none 0 0) 0))
 rw [← hw1, ← hgw]
 rw [← hgw] at S0 SZ
 clear hw1
 have HG := Aside0.mk hgw
 clear hgw
 have hlw : IntKind.u64.wrap (left.length : Int) = (left.length : Int) := by rw [IntKind.wrap_u64]; omega
 have hu32 := Try.underlying32
 go_cut [7, 8] (fun v7 v8 wc => ∃ (A2 : Option Addr) (c2 : Nat), v7 = .int .u64 0 ∧ v8 = .int .i64 er ∧ Aside0 (St wc gx g gw n left.length cap left A2 c2 l a base (fun k => P k ∨ gw + 1 < k)) ∧ Aside0 (Below w.heap.size w wc))
 case first =>
  have hx1 := S0.out.x1
  have ho0 := S0.out.o0
  have ho1 := S0.out.o1
  have S1 := Aside0.mk (S0.out.below (below_drew (Below.refl _ _)))
  have HB1' := Aside0.mk (below_drew1 HB1.out)
  go_region_with (first | (go_at_call 23; (refine (draw_Below.calls k P A c l a (left.length : Int) 0 l a er _ ?s1 hD).mono ?_); (case s1 => exact S1.out.v); rintro e w2 ⟨v1, rfl, hV2, hb2⟩; obtain ⟨A2, c2, rfl⟩ := Kd.V_slice hV2; have S2 := Aside0.mk (S1.out.below hb2); have HB2 := Aside0.mk (below_step HB1'.out hb2); have HV2 := Aside0.mk hV2; clear hV2 hb2; have ho0 := S2.out.o0; have ho1 := S2.out.o1; have hf0 := S2.out.of 0; have hf1 := S2.out.of 1; have hx1 := S2.out.x1))
  all_goals
   go_wp2
   go_meet
   have hle : w.heap.size ≤ gw := Nat.le_of_eq HG.out.symm
   case rel =>
    exact ⟨A2, c2, rfl, rfl, ⟨S2.out.put (Kd.V_mono HV2.out (fun k hk => hk.imp id (fun h => by have h2 : w1.heap.size ≤ k := h; have := SZ.out; omega)))
     (fun k hk => hk.elim (fun h => S0.out.p k h) (fun h => by have := S0.out.ne; omega))⟩, ⟨below_set (below_set HB2.out hle) (Nat.le_of_eq HG.out.symm)⟩⟩
 case rest =>
  obtain ⟨A2, c2, rfl, rfl, S4, HB4⟩ := hcut
  have ho0 := S4.out.o0
  have ho1 := S4.out.o1
  obtain ⟨u9, b9, q9⟩ := S4.out.q
  have hq0 : wc.cell? ⟨gw + 1, 0, none⟩ = some u9 := (blk_cell q9 0).trans rfl
  have hq1 : wc.cell? ⟨gw + 1, 1, none⟩ = some (.int .i64 b9) := (blk_cell q9 1).trans rfl
  have hqf0 := blk_frozen q9 0
  have hqf1 := blk_frozen q9 1
  have Q9 := Aside0.mk q9
  clear q9
  go_wp2
  go_region_with (fail)
  all_goals
   go_wp2
   have hqd := blk_drew Q9.out
   refine bodyPost_ret (results_list (rs := [.tmp 4, .cell 5 32, .tmp 6]) rfl (by simp) (.tmp (.cell (gw + 1) 32 #[.slice A2 l.length c2, .int .i64 a] (0, 0) _ rfl (by
    refine blk_put (cs := #[.slice A2 l.length c2, .int .i64 b9]) (blk_put (cs := #[u9, .int .i64 b9]) ?_ 0 _ rfl) 1 _ rfl
    first | exact Q9.out | exact hqd) Try.underlying32 rfl (by kernel_rfl) (.tmp .nil)))) rfl ?_
   have hgw : w.heap.size ≤ gw := Nat.le_of_eq HG.out.symm
   have hne := S4.out.ne
   refine ⟨_, rfl, ?_, ?_⟩
   ·
    exact Kd.V_mono (Kd.V_far (Kd.V_far S4.out.v (fun k hk => (S4.out.p k hk).2.2.2) _) (fun k hk => (S4.out.p k hk).2.2.2) _) (fun k hk => hk.imp id (fun h => by omega))
   ·
    exact below_drew1 (below_set (below_set HB4.out (show w.heap.size ≤ gw + 1 by omega)) (show w.heap.size ≤ gw + 1 by omega))
end Go.Proofs.Ythgacimoifbhiaa
