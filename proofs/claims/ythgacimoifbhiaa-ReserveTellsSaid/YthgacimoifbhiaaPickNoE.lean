import Derived.Test.YthgacimoifbhiaaTake
namespace Go.Proofs.Ythgacimoifbhiaa
open Go.RowKit Go.Proofs.Ythgacimoifbhiaa.Q Go.Proofs.YthgacimoifbhiaaW.PrintWords Go.Proofs.YthgacimoifbhiaaW.PrintLast Go.Proofs.YthgacimoifbhiaaW.PrintMore
set_option linter.unusedVariables false
set_option linter.unusedSimpArgs false
structure Sw (w : World) (gw : Nat) (A : Option Addr) (c : Nat) (l : List Int) (a : Int) (base : Nat) (P : Nat → Prop) : Prop where
  o : w.heap[gw]? = some (wordsO (.slice A l.length c) a)
  v : Kd.V (Kd.int .u64) 23 w base P (.slice A l.length c) l
  p : ∀ k, P k → k ≠ gw ∧ k ≠ gw + 1
  ne : gw + 1 < w.heap.size
  q : ∃ u b, w.heap[gw + 1]? = some (wordsO u b)
section
variable {w w1 : World} {gw c base : Nat} {a : Int} {A : Option Addr} {l : List Int} {P : Nat → Prop}
theorem Sw.below (h : Sw w gw A c l a base P) (hb : Below w.heap.size w w1) : Sw w1 gw A c l a base P :=
  ⟨blk_below h.o hb, Kd.V_below h.v hb, h.p, Nat.lt_of_lt_of_le h.ne hb.size, by obtain ⟨u, b, q⟩ := h.q; exact ⟨u, b, blk_below q hb⟩⟩
theorem Sw.of (h : Sw w gw A c l a base P) (i : Nat) : w.frozen? ⟨gw, i, none⟩ = false := blk_frozen h.o i
theorem Sw.o0 (h : Sw w gw A c l a base P) : w.cell? ⟨gw, 0, none⟩ = some (.slice A l.length c) := (blk_cell h.o 0).trans rfl
theorem Sw.o1 (h : Sw w gw A c l a base P) : w.cell? ⟨gw, 1, none⟩ = some (.int .i64 a) := (blk_cell h.o 1).trans rfl
theorem Sw.put (h : Sw w gw A c l a base P) {A' : Option Addr} {c' : Nat} {l' : List Int} {b : Int} {base' : Nat} {P' : Nat → Prop} (hV : Kd.V (Kd.int .u64) 23 w base' P' (.slice A' l'.length c') l') (hp : ∀ k, P' k → k ≠ gw ∧ k ≠ gw + 1) :
    Sw ((w.setCell ⟨gw, 0, none⟩ (.slice A' l'.length c')).setCell ⟨gw, 1, none⟩ (.int .i64 b)) gw A' c' l' b base P' :=
  ⟨blk_put (cs := #[.slice A' l'.length c', .int .i64 a]) (blk_put (cs := #[.slice A l.length c, .int .i64 a]) h.o 0 _ rfl) 1 _ rfl,
   Kd.V_far (Kd.V_far hV (fun k hk => (hp k hk).1) _) (fun k hk => (hp k hk).1) _, hp,
   by obtain ⟨u, b, q⟩ := h.q; exact blk_lt (blk_far (blk_far q (by simp) _) (by simp) _),
   by obtain ⟨u, b, q⟩ := h.q; exact ⟨u, b, blk_far (blk_far q (by simp) _) (by simp) _⟩⟩
end
set_option maxHeartbeats 2000000 in
theorem pick_no {er : Int} (her : (er != 0) = true) (k gx gy : Nat) (n ny : Int) (vx vy : Value) (P : Nat → Prop) (A : Option Addr) (c : Nat) (l : List Int) (a : Int) (w : World)
    (hX : w.heap[gx]? = some (sideO n vx)) (hY : w.heap[gy]? = some (sideO ny vy))
    (hW : Kd.V (Kd.int .u64) 23 w w.heap.size P (.slice A l.length c) l) (hP : ∀ k, P k → k < w.heap.size)
    (hD : draw_Below.f k l a (IntKind.u64.wrap (n + ny)) = some (0, l, a, er)) :
    Calls Try.prog 27 #[.pointer (some ⟨gx, 0, none⟩), .pointer (some ⟨gy, 0, none⟩), .agg #[.slice A l.length c, .int .i64 a]] w fun e w' =>
      ∃ v1_ : Value, e = .returned (.tuple #[.string ByteArray.empty, .agg #[v1_, .int .i64 a], .int .i64 er]) ∧ Kd.V (Kd.int .u64) 23 w' w.heap.size (fun k_ => P k_ ∨ w.heap.size ≤ k_) v1_ l ∧ Below w.heap.size w w' := by
  have hP2 : ∀ k, P k → k ≠ w.heap.size ∧ k ≠ w.heap.size + 1 := fun k hk => ⟨by have := hP k hk; omega, by have := hP k hk; omega⟩
  have sz1 : (w.alloc (wordsO (.slice A l.length c) a)).heap.size = w.heap.size + 1 := by show (w.heap.push _).size = _; simp
  have sz2 : ((w.alloc (wordsO (.slice A l.length c) a)).alloc (wordsO (.slice none 0 0) 0)).heap.size = w.heap.size + 2 := by show ((w.heap.push _).push _).size = _; simp
  have hb1 : Below w.heap.size w ((w.alloc (wordsO (.slice A l.length c) a)).alloc (wordsO (.slice none 0 0) 0)) := below_alloc (below_alloc (Below.refl _ _) _) _
  have S0 : Sw ((w.alloc (wordsO (.slice A l.length c) a)).alloc (wordsO (.slice none 0 0) 0)) w.heap.size A c l a 0 P :=
    ⟨blk_alloc (Deep.blk_alloc_new w _) _, Kd.V_alloc (Kd.V_alloc hW _) _, hP2, by omega,
      ⟨.slice none 0 0, 0, by have := Deep.blk_alloc_new (w.alloc (wordsO (.slice A l.length c) a)) (wordsO (.slice none 0 0) 0); rw [sz1] at this; exact this⟩⟩
  have S0 := Aside0.mk S0
  have HB1 := Aside0.mk hb1
  have SZ := Aside0.mk sz2
  clear hb1 sz1 sz2
  have HY := Aside0.mk (blk_alloc (blk_alloc hY (wordsO (.slice A l.length c) a)) (wordsO (.slice none 0 0) 0))
  have HX := Aside0.mk (blk_alloc (blk_alloc hX (wordsO (.slice A l.length c) a)) (wordsO (.slice none 0 0) 0))
  clear hX hW hY
  go_enter Try.func27, Try.ntmps27
  go_upto_region 1 with (fail)
  obtain ⟨w1, hw1⟩ : ∃ w1, w1 = (w.alloc (wordsO (.slice A l.length c) a)).alloc (wordsO (.slice none 0 0) 0) := ⟨_, rfl⟩
  obtain ⟨gw, hgw⟩ : ∃ gw, gw = w.heap.size := ⟨_, rfl⟩
  rw [← hw1] at S0 HB1 SZ HY HX
  change Code.wp _ _ _ _ ((w.alloc (wordsO (.slice A l.length c) a)).alloc (wordsO (.slice none 0 0) 0))
  rw [← hw1, ← hgw]
  rw [← hgw] at S0 SZ
  clear hw1
  have HG := Aside0.mk hgw
  clear hgw
  have hu32 := Try.underlying32
  go_cut [9, 10] (fun v9 v10 wc => ∃ (A2 : Option Addr) (c2 : Nat), v9 = .int .u64 0 ∧ v10 = .int .i64 er ∧ Aside0 (Sw wc gw A2 c2 l a 0 (fun k => P k ∨ gw + 1 < k)) ∧ Aside0 (Below w.heap.size w wc))
  case first =>
    have hx0 : w1.cell? ⟨gx, 0, none⟩ = some (.int .u64 n) := (blk_cell HX.out 0).trans rfl
    have hy0 : w1.cell? ⟨gy, 0, none⟩ = some (.int .u64 ny) := (blk_cell HY.out 0).trans rfl
    have ho0 := S0.out.o0
    have ho1 := S0.out.o1
    have S1 := Aside0.mk (S0.out.below (below_drew (Below.refl _ _)))
    have HB1' := Aside0.mk (below_drew1 HB1.out)
    go_region_with (first | (go_at_call 23; (refine (draw_Below.calls k P A c l a (IntKind.u64.wrap (n + ny)) 0 l a er _ ?s1 hD).mono ?_); (case s1 => exact S1.out.v); rintro e w2 ⟨v1, rfl, hV2, hb2⟩; obtain ⟨A2, c2, rfl⟩ := Kd.V_slice hV2; have S2 := Aside0.mk (S1.out.below hb2); have HB2 := Aside0.mk (below_step HB1'.out hb2); have HV2 := Aside0.mk hV2; clear hV2 hb2; have ho0 := S2.out.o0; have ho1 := S2.out.o1; have hf0 := S2.out.of 0; have hf1 := S2.out.of 1))
    all_goals
      go_wp2
      go_meet
      have hle : w.heap.size ≤ gw := Nat.le_of_eq HG.out.symm
      case rel =>
        exact ⟨A2, c2, rfl, rfl, ⟨S2.out.put (P' := fun k => P k ∨ gw + 1 < k) (Kd.V_mono HV2.out (fun k hk => hk.imp id (fun h => by have h2 : w1.heap.size ≤ k := h; have := SZ.out; omega)))
          (fun k hk => hk.elim (fun h => S0.out.p k h) (fun h => by have := S0.out.ne; omega))⟩, ⟨below_set (below_set HB2.out hle) (Nat.le_of_eq HG.out.symm)⟩⟩
  case rest =>
    obtain ⟨A2, c2, rfl, rfl, S4, HB4⟩ := hcut
    have ho0 := S4.out.o0
    have ho1 := S4.out.o1
    obtain ⟨u9, b9, q9⟩ := S4.out.q
    have hq0 : wc.cell? ⟨gw + 1, 0, none⟩ = some u9 := (blk_cell q9 0).trans rfl
    have hq1 : wc.cell? ⟨gw + 1, 1, none⟩ = some (.int .i64 b9) := (blk_cell q9 1).trans rfl
    have hqf0 := blk_frozen q9 0
    have hqf1 := blk_frozen q9 1
    have Q9 := Aside0.mk q9
    clear q9
    go_wp2
    go_region_with (fail)
    all_goals
      go_wp2
      have hqd := blk_drew Q9.out
      refine bodyPost_ret (results_list (rs := [.tmp 6, .cell 7 32, .tmp 8]) rfl (by simp) (.tmp (.cell (gw + 1) 32 #[.slice A2 l.length c2, .int .i64 a] (0, 0) _ rfl (by
        refine blk_put (cs := #[.slice A2 l.length c2, .int .i64 b9]) (blk_put (cs := #[u9, .int .i64 b9]) ?_ 0 _ rfl) 1 _ rfl
        first | exact Q9.out | exact hqd) Try.underlying32 rfl (by kernel_rfl) (.tmp .nil)))) rfl ?_
      have hgw : w.heap.size ≤ gw := Nat.le_of_eq HG.out.symm
      have hne := S4.out.ne
      refine ⟨_, rfl, ?_, ?_⟩
      · exact Kd.V_mono (Kd.V_far (Kd.V_far S4.out.v (fun k hk => (S4.out.p k hk).2) _) (fun k hk => (S4.out.p k hk).2) _) (fun k hk => hk.imp id (fun h => by omega))
      · exact below_drew1 (below_set (below_set HB4.out (show w.heap.size ≤ gw + 1 by omega)) (show w.heap.size ≤ gw + 1 by omega))
end Go.Proofs.Ythgacimoifbhiaa
