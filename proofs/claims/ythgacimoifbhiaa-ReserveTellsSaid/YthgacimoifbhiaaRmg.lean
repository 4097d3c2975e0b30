import Derived.Test.YthgacimoifbhiaaRmgP
namespace Go.Proofs.Ythgacimoifbhiaa
attribute [local go_sem ↓] Go.wp_at_zero Go.wp_at_succ
open Go.RowKit Go.Proofs.Ythgacimoifbhiaa.Q Go.Proofs.Ythgacimoifbhiaa.T Go.Proofs.YthgacimoifbhiaaW.PrintWords Go.Proofs.YthgacimoifbhiaaW.PrintLast Go.Proofs.YthgacimoifbhiaaW.PrintMore
set_option linter.unusedVariables false
set_option linter.unusedSimpArgs false
def RMPost (er K T : Int) (A : Option Addr) (c : Nat) (l : List Int) (a : Int) (r : Option (List ByteArray × Int)) (w : World) (e : Ending) (w' : World) : Prop :=
 match r with
 | some (items, b) => ∃ (v2 : Value) (A3 : Option Addr) (c3 : Nat), e = .returned (.tuple #[.agg #[.int .i64 K, .int .u64 T, v2], .agg #[.slice A3 l.length c3, .int .i64 b], .int .i64 0]) ∧ Kd.R Kd.string 9 w' w.heap.size (fun _ => True) v2 items ∧ Below w.heap.size w w'
 | none => e = .returned (.tuple #[.agg #[.int .i64 0, .int .u64 0, .slice none 0 0], .agg #[.slice A l.length c, .int .i64 a], .int .i64 er]) ∧ Below w.heap.size w w'
theorem heldM {W w' : World} {s : Nat} {K N M a : Int} {u v x : Value} (S : Bm W s K N K M u v x a) (h : Below W.heap.size W w') :
  w'.cell? ⟨s, 1, none⟩ = some (.int .u64 N) ∧ w'.cell? ⟨s, 2, none⟩ = some u ∧ w'.cell? ⟨s + 1, 1, none⟩ = some (.int .u64 M) ∧ w'.cell? ⟨s + 1, 2, none⟩ = some v ∧ w'.cell? ⟨s + 1 + 1, 0, none⟩ = some x ∧ w'.cell? ⟨s + 1 + 1, 1, none⟩ = some (.int .i64 a) ∧ Below W.heap.size W w' :=
 ⟨(blk_cell (S.below h).a 1).trans rfl, (blk_cell (S.below h).a 2).trans rfl, (blk_cell (S.below h).b 1).trans rfl, (blk_cell (S.below h).b 2).trans rfl, (blk_cell (S.below h).o 0).trans rfl, (blk_cell (S.below h).o 1).trans rfl, h⟩
set_option maxRecDepth 100000 in
set_option maxHeartbeats 4000000 in
theorem rmerge_ok (kf F : Nat) (er : Int) (her : (er != 0) = true) (he7 : er ≠ 7) (K N M : Int) (A0 : Option Addr) (c0 : Nat) (X : List ByteArray) (A1 : Option Addr) (c1 : Nat) (Y : List ByteArray) (A : Option Addr) (c : Nat) (l : List Int) (a : Int) (P : Nat → Prop) (w : World)
  (h0 : Kd.C Kd.string w A0 X.length X) (hc0 : X.length ≤ c0) (h1 : Kd.C Kd.string w A1 Y.length Y) (hc1 : Y.length ≤ c1) (hW : Kd.V (Kd.int .u64) 23 w w.heap.size P (.slice A l.length c) l)
  (r1 : samphireref16_Right.f kf K N X = some true) (r2 : samphireref16_Right.f kf K M Y = some true) (hnw : IntKind.u64.wrap (N + M) ≤ 4611686018427387904)
  (hK1 : 1 ≤ K) (hK2 : K ≤ 1024) (hXl : X.length ≤ 1024) (hYl : Y.length ≤ 1024)
  (hbelow : ∀ a d v p e, 0 ≤ d → d < 18446744073709551616 → draw_Below.f F l a d = some (v, l, p, e) → samphireref16_below.f kf l a d = some (v, l, p, e))
  (hwith : ∀ (L : List ByteArray) (i : Int), L.length ≤ 1024 → 0 ≤ i → i < L.length → samphireref16_without.f kf L i = some (Q.leftOf L i))
  (r : Option (List ByteArray × Int)) (hr : rounds er F l (min K (IntKind.u64.wrap (N + M))).toNat N X M Y a [] = some r) :
  Calls Try.prog 20 #[.agg #[.int .i64 K, .int .u64 N, .slice A0 X.length c0], .agg #[.int .i64 K, .int .u64 M, .slice A1 Y.length c1], .agg #[.slice A l.length c, .int .i64 a]] w (RMPost er K (IntKind.u64.wrap (N + M)) A c l a r w) := by
 have hut := Try.underlying41
 have huw := Try.underlying40
 have S0 := Aside0.mk (Bm.made w K N K M (.slice A0 X.length c0) (.slice A1 Y.length c1) (.slice A l.length c) a)
 have B0 := Aside0.mk (show Below w.heap.size w (((((w.alloc (sampleR K N (.slice A0 X.length c0))).alloc (sampleR K M (.slice A1 Y.length c1))).alloc (wordsR (.slice A l.length c) a)).alloc (sampleR 0 0 (.slice none 0 0))).alloc (wordsR (.slice none 0 0) 0)) from below_alloc (below_alloc (below_alloc (below_alloc (below_alloc (Below.refl _ _) _) _) _) _) _)
 have HR := Lib.hid hr
 have HB := Lib.hid hbelow
 have HW := Lib.hid hwith
 clear hr hbelow hwith
 have V0 := Aside0.mk h0
 have V1 := Aside0.mk h1
 have V2 := Aside0.mk hW
 clear h0 h1 hW
 go_enter Try.func20, Try.ntmps20
 go_upto_region 1 with (fail)
 obtain ⟨w0, hw0⟩ : ∃ w0, w0 = (((((w.alloc (sampleR K N (.slice A0 X.length c0))).alloc (sampleR K M (.slice A1 Y.length c1))).alloc (wordsR (.slice A l.length c) a)).alloc (sampleR 0 0 (.slice none 0 0))).alloc (wordsR (.slice none 0 0) 0)) := ⟨_, rfl⟩
 obtain ⟨s, hs⟩ : ∃ s, s = w.heap.size := ⟨_, rfl⟩
 rw [← hw0] at S0 B0
 change Code.wp _ _ _ _ (((((w.alloc (sampleR K N (.slice A0 X.length c0))).alloc (sampleR K M (.slice A1 Y.length c1))).alloc (wordsR (.slice A l.length c) a)).alloc (sampleR 0 0 (.slice none 0 0))).alloc (wordsR (.slice none 0 0) 0))
 rw [← hw0, ← hs]
 rw [← hs] at S0
 clear hw0
 have hsw : w.heap.size ≤ s := Nat.le_of_eq hs.symm
 have hsw2 : s ≤ w.heap.size := Nat.le_of_eq hs
 clear hs
 have ha0 : w0.cell? ⟨s, 0, none⟩ = some (.int .i64 K) := (blk_cell S0.out.a 0).trans rfl
 have ha1 : w0.cell? ⟨s, 1, none⟩ = some (.int .u64 N) := (blk_cell S0.out.a 1).trans rfl
 have ha2 : w0.cell? ⟨s, 2, none⟩ = some (.slice A0 X.length c0) := (blk_cell S0.out.a 2).trans rfl
 have hk2 : (K != K) = false := by simp
 have hn2 : decide (4611686018427387904 < IntKind.u64.wrap (N + M)) = false := decide_eq_false (by omega)
 go_upto_region 8 with (first
  | (go_at_call_of 18 (Value.agg #[.int .i64 K, .int .u64 N, .slice A0 X.length c0]); refine (samphireref16_Right.calls kf K N A0 c0 X true _ (Kd.C_below V0.out B0.out) hc0 r1).mono ?_; rintro e w1 ⟨rfl, hd⟩; have S1 := Aside0.mk (S0.out.below hd); have B1 := Aside0.mk (below_step B0.out hd); clear hd; have hb0 : w1.cell? ⟨s + 1, 0, none⟩ = some (.int .i64 K) := (blk_cell S1.out.b 0).trans rfl; have hb1 : w1.cell? ⟨s + 1, 1, none⟩ = some (.int .u64 M) := (blk_cell S1.out.b 1).trans rfl; have hb2 : w1.cell? ⟨s + 1, 2, none⟩ = some (.slice A1 Y.length c1) := (blk_cell S1.out.b 2).trans rfl)
  | (go_at_call_of 18 (Value.agg #[.int .i64 K, .int .u64 M, .slice A1 Y.length c1]); refine (samphireref16_Right.calls kf K M A1 c1 Y true _ (Kd.C_below V1.out B1.out) hc1 r2).mono ?_; rintro e w2 ⟨rfl, hd⟩; have S2 := Aside0.mk (S1.out.below hd); have B2 := Aside0.mk (below_step B1.out hd); clear hd; have ha0 : w2.cell? ⟨s, 0, none⟩ = some (.int .i64 K) := (blk_cell S2.out.a 0).trans rfl; have ha1 : w2.cell? ⟨s, 1, none⟩ = some (.int .u64 N) := (blk_cell S2.out.a 1).trans rfl; have hb0 : w2.cell? ⟨s + 1, 0, none⟩ = some (.int .i64 K) := (blk_cell S2.out.b 0).trans rfl; have hb1 : w2.cell? ⟨s + 1, 1, none⟩ = some (.int .u64 M) := (blk_cell S2.out.b 1).trans rfl))
 obtain ⟨w3, hw3⟩ : ∃ w3, w3 = w2.alloc (sampleR K (IntKind.u64.wrap (N + M)) (.slice none 0 0)) := ⟨_, rfl⟩
 have S3 := Aside0.mk (S2.out.below (below_alloc (Below.refl _ _) (sampleR K (IntKind.u64.wrap (N + M)) (.slice none 0 0))))
 have B3 := Aside0.mk (below_alloc B2.out (sampleR K (IntKind.u64.wrap (N + M)) (.slice none 0 0)))
 have O3 := Aside0.mk (blk_new w2 (sampleR K (IntKind.u64.wrap (N + M)) (.slice none 0 0)))
 have lgo := blk_lt S2.out.q
 change Code.wp _ _ _ _ (w2.alloc (sampleR K (IntKind.u64.wrap (N + M)) (.slice none 0 0)))
 rw [← hw3] at S3 B3 O3
 rw [← hw3]
 clear hw3 S0 S1 S2 B0 B1 B2 ha0 ha1 ha2 hb0 hb1 hb2 r1 r2 hk2 hn2
 generalize w2.heap.size = go at *
 have lw3 := blk_lt O3.out
 have ha1 : w3.cell? ⟨s, 1, none⟩ = some (.int .u64 N) := (blk_cell S3.out.a 1).trans rfl
 have ha2 : w3.cell? ⟨s, 2, none⟩ = some (.slice A0 X.length c0) := (blk_cell S3.out.a 2).trans rfl
 have hb1 : w3.cell? ⟨s + 1, 1, none⟩ = some (.int .u64 M) := (blk_cell S3.out.b 1).trans rfl
 have hb2 : w3.cell? ⟨s + 1, 2, none⟩ = some (.slice A1 Y.length c1) := (blk_cell S3.out.b 2).trans rfl
 have ho0 : w3.cell? ⟨s + 1 + 1, 0, none⟩ = some (.slice A l.length c) := (blk_cell S3.out.o 0).trans rfl
 have ho1 : w3.cell? ⟨s + 1 + 1, 1, none⟩ = some (.int .i64 a) := (blk_cell S3.out.o 1).trans rfl
 go_cut [10, 11, 12, 13, 14] (fun v10 v11 v12 v13 v14 wc => ∃ gn : Nat, v10 = .int .u64 N ∧ v11 = .int .u64 M ∧ v12 = .slice A0 X.length c0 ∧ v13 = .slice A1 Y.length c1 ∧ v14 = .pointer (some ⟨gn, 0, none⟩) ∧ Aside0 (wc.heap[gn]? = some (wordsR (.slice A l.length c) a) ∧ Below w3.heap.size w3 wc ∧ w3.heap.size ≤ gn))
 case first =>
  have B3' := Aside0.mk (Below.refl w3.heap.size w3)
  go_region_held3 (fun w' => w'.cell? ⟨s, 1, none⟩ = some (.int .u64 N) ∧ w'.cell? ⟨s, 2, none⟩ = some (.slice A0 X.length c0) ∧ w'.cell? ⟨s + 1, 1, none⟩ = some (.int .u64 M) ∧ w'.cell? ⟨s + 1, 2, none⟩ = some (.slice A1 Y.length c1) ∧ w'.cell? ⟨s + 1 + 1, 0, none⟩ = some (.slice A l.length c) ∧ w'.cell? ⟨s + 1 + 1, 1, none⟩ = some (.int .i64 a) ∧ Below w3.heap.size w3 w')
   ((refine heldM S3.out ?_; repeat (with_reducible first | assumption | exact B3'.out | apply below_alloc | apply below_drew1 | refine below_set ?_ (Nat.le_refl _))))
   (fail)
  all_goals
   go_wp2
   go_meet
  case rel => exact ⟨_, rfl, rfl, rfl, rfl, rfl, ⟨blk_drew (blk_new _ _), below_drew1 (below_alloc (Below.refl _ _) _), Nat.le_refl _⟩⟩
 case rest =>
  obtain ⟨gn, rfl, rfl, rfl, rfl, rfl, T⟩ := hcut
  have S4 := Aside0.mk (S3.out.below T.out.2.1)
  have O4 := Aside0.mk (blk_below O3.out T.out.2.1)
  have B4 := Aside0.mk (below_step B3.out T.out.2.1)
  have N4 := Aside0.mk T.out.1
  have lgn := T.out.2.2
  clear T S3 O3 B3 ha1 ha2 hb1 hb2 ho0 ho1
  have H4 : Lq w wc s go gn K (IntKind.u64.wrap (N + M)) A c l a A0 c0 X A1 c1 Y (.slice none 0 0) [] A c a := by
   have f : ∀ k, k < w.heap.size → Fm s go gn (.slice none 0 0) k := fun k hk => ⟨by omega, by omega, by omega, by omega, by omega, by simp [Value.ownBlock]⟩
   have e1 := Kd.V_mk (base := 0) (e := 9) hc0 (Kd.C_F Kd.heap_string V0.out)
   have e2 := Kd.V_mk (base := 0) (e := 9) hc1 (Kd.C_F Kd.heap_string V1.out)
   exact ⟨S4.out.o, S4.out.r, S4.out.q, O4.out, N4.out, Kd.V_mono (Kd.V_below e1 B4.out) f, Kd.V_mono (Kd.V_below e2 B4.out) f, Kd.V_mono (Kd.V_map (Kd.V_below (Kd.V_bound V2.out) B4.out) (fun _ h => h)) (fun k hk => f k hk.2), Kd.R_nil _ _ _ _ _, fun k hk => by simp [Value.ownBlock] at hk, ⟨by omega, by omega⟩, hsw, B4.out⟩
  obtain ⟨T, hT⟩ : ∃ T, IntKind.u64.wrap (N + M) = T := ⟨_, rfl⟩
  rw [hT] at H4 HR hnw
  have hT0 : 0 ≤ T := by rw [← hT, IntKind.wrap_u64]; omega
  obtain ⟨m, hm⟩ : ∃ m : Nat, (min K T).toNat = m := ⟨_, rfl⟩
  rw [hm] at HR
  have L4 := Aside0.mk H4
  have I4 := Aside0.mk (show rounds er F l (m - 0) N X M Y a [] = some r ∧ X.length ≤ 1024 ∧ Y.length ≤ 1024 ∧ ([] : List ByteArray).length = 0 ∧ IntKind.u64.wrap (N + M) = T - (0 : Nat) from ⟨HR.out, hXl, hYl, rfl, by rw [hT]; omega⟩)
  clear H4 S4 O4 B4 N4 V0 V1 HR
  go_wp2_with (fail)
  go_loopw [10, 11, 12, 13] (fun v10 v11 v12 v13 wr => ∃ (j : Nat) (nx ny a' : Int) (X' Y' items : List ByteArray) (vi : Value) (Ax : Option Addr) (cx : Nat) (Ay : Option Addr) (cy : Nat) (A' : Option Addr) (c' : Nat), v10 = .int .u64 nx ∧ v11 = .int .u64 ny ∧ v12 = .slice Ax X'.length cx ∧ v13 = .slice Ay Y'.length cy ∧ j ≤ m ∧
    Aside0 (Lq w wr s go gn K T A c l a Ax cx X' Ay cy Y' vi items A' c' a') ∧ Aside0 (rounds er F l (m - j) nx X' ny Y' a' items = some r ∧ X'.length ≤ 1024 ∧ Y'.length ≤ 1024 ∧ items.length = j ∧ IntKind.u64.wrap (nx + ny) = T - j)) (fun v10 v11 _ _ _ => (IntKind.u64.wrap (intOf v10 + intOf v11)).toNat)
  case atStart => exact ⟨0, N, M, a, X, Y, [], _, A0, c0, A1, c1, A, c, rfl, rfl, rfl, rfl, Nat.zero_le _, L4, I4⟩
  case round =>
   obtain ⟨j, nx, ny, a', X', Y', items, vi, Ax, cx, Ay, cy, A', c', rfl, rfl, rfl, rfl, hjm, L, I⟩ := hrel
   clear L4 I4
   obtain ⟨Ai, ci, rfl⟩ := Kd.R_slice L.out.i
   have g0 : wr.cell? ⟨go, 0, none⟩ = some (.int .i64 K) := (blk_cell L.out.g 0).trans rfl
   have g2 : wr.cell? ⟨go, 2, none⟩ = some (.slice Ai items.length ci) := (blk_cell L.out.g 2).trans rfl
   by_cases hlt : j < m
   ·
    have hK2' : decide ((items.length : Int) < K) = true := decide_eq_true (by have := I.out.2.2.2.1; omega)
    have hT2 : decide (0 < IntKind.u64.wrap (nx + ny)) = true := decide_eq_true (by rw [I.out.2.2.2.2]; omega)
    obtain ⟨d, hd⟩ : ∃ d, m - j = d + 1 := ⟨m - j - 1, by omega⟩
    have hr := I.out.1
    rw [hd] at hr
    obtain ⟨t, hp⟩ := rounds_some hr
    have n0 : wr.cell? ⟨gn, 0, none⟩ = some (.slice A' l.length c') := (blk_cell L.out.n 0).trans rfl
    have n1 : wr.cell? ⟨gn, 1, none⟩ = some (.int .i64 a') := (blk_cell L.out.n 1).trans rfl
    rcases picked_two hp with ⟨rfl, d1⟩ | ⟨fst, j1, b1, d1, hf, hway⟩
    ·
     rw [rounds_no hp rfl] at hr
     obtain rfl : r = none := (Option.some.inj hr).symm
     have hb1 := HB.out _ _ _ _ _ (by rw [IntKind.wrap_u64]; omega) (by rw [IntKind.wrap_u64]; omega) d1
     clear hr hp d1
     go_upto_region 11 with (go_at_call 24; refine (samphireref16_below.calls kf (Fm s go gn (.slice Ai items.length ci)) A' c' l a' (IntKind.u64.wrap (nx + ny)) 0 l a' er wr (Kd.V_map L.out.v (fun _ h => h)) hb1).mono ?_; rintro e5 w5 ⟨v5, rfl, hV5, hB5⟩; obtain ⟨A5, c5, rfl⟩ := Kd.V_slice hV5; have HB5 := Aside0.mk hB5; clear hV5 hB5)
     obtain ⟨w6, hw6⟩ : ∃ w6, w6 = w5.alloc (wordsR (.slice A5 l.length c5) a') := ⟨_, rfl⟩
     have L6 := Aside0.mk (L.out.below (below_alloc HB5.out (wordsR (.slice A5 l.length c5) a')))
     change Code.wp _ _ _ _ (w5.alloc (wordsR (.slice A5 l.length c5) a'))
     rw [← hw6] at L6
     rw [← hw6]
     have Q5 := Aside0.mk L6.out.o
     have Q6 := Aside0.mk L6.out.r
     have Q7 := Aside0.mk L6.out.q
     have QB := Aside0.mk L6.out.bel
     clear hw6 L I HB5 L6 n0 n1 g0 g2
     go_upto_region 12 with (fail)
     have h50 : w6.cell? ⟨s + 1 + 1, 0, none⟩ = some (.slice A l.length c) := (blk_cell Q5.out 0).trans rfl
     have h51 : w6.cell? ⟨s + 1 + 1, 1, none⟩ = some (.int .i64 a) := (blk_cell Q5.out 1).trans rfl
     have h60 : w6.cell? ⟨s + 1 + 1 + 1, 0, none⟩ = some (.int .i64 0) := (blk_cell Q6.out 0).trans rfl
     have h61 : w6.cell? ⟨s + 1 + 1 + 1, 1, none⟩ = some (.int .u64 0) := (blk_cell Q6.out 1).trans rfl
     have h62 : w6.cell? ⟨s + 1 + 1 + 1, 2, none⟩ = some (.slice none 0 0) := (blk_cell Q6.out 2).trans rfl
     have h70 : w6.cell? ⟨s + 1 + 1 + 1 + 1, 0, none⟩ = some (.slice none 0 0) := (blk_cell Q7.out 0).trans rfl
     have h71 : w6.cell? ⟨s + 1 + 1 + 1 + 1, 1, none⟩ = some (.int .i64 0) := (blk_cell Q7.out 1).trans rfl
     have f60 := blk_frozen Q6.out 0
     have f61 := blk_frozen Q6.out 1
     have f62 := blk_frozen Q6.out 2
     have f70 := blk_frozen Q7.out 0
     have f71 := blk_frozen Q7.out 1
     go_region_with (fail)
     all_goals
      go_wp2
      refine bodyPost_ret (results_list (rs := [.cell 6 41, .cell 7 40, .tmp 8]) rfl (by simp) (.cell (s + 1 + 1 + 1) 41 #[.int .i64 0, .int .u64 0, .slice none 0 0] (0, 0) _ rfl ?b6 Try.underlying41 rfl (by kernel_rfl) (.cell (s + 1 + 1 + 1 + 1) 40 #[.slice A l.length c, .int .i64 a] (0, 0) _ rfl ?b7 Try.underlying40 rfl (by kernel_rfl) (.tmp .nil)))) rfl ?post
      case b6 => first
       | exact blk_drew (blk_far (blk_far (put41 Q6.out 0 0 (.slice none 0 0)) (by simp) _) (by simp) _)
       | exact blk_drew (put41 (blk_far (blk_far Q6.out (by simp) _) (by simp) _) 0 0 (.slice none 0 0))
      case b7 => first
       | exact blk_drew (put40 (blk_far (blk_far (blk_far Q7.out (by simp) _) (by simp) _) (by simp) _) (.slice A l.length c) a)
       | exact blk_drew (blk_far (blk_far (blk_far (put40 Q7.out (.slice A l.length c) a) (by simp) _) (by simp) _) (by simp) _)
      case post => exact ⟨rfl, below_drew1 (set5 QB.out (by dsimp only; omega) (by dsimp only; omega) (by dsimp only; omega) (by dsimp only; omega) (by dsimp only; omega))⟩
    ·
     have hb1 := HB.out _ _ _ _ _ (by rw [IntKind.wrap_u64]; omega) (by rw [IntKind.wrap_u64]; omega) d1
     go_upto_region 11 with (go_at_call 24; refine (samphireref16_below.calls kf (Fm s go gn (.slice Ai items.length ci)) A' c' l a' (IntKind.u64.wrap (nx + ny)) j1 l b1 0 wr (Kd.V_map L.out.v (fun _ h => h)) hb1).mono ?_; rintro e5 w5 ⟨v5, rfl, hV5, hB5⟩; obtain ⟨A5, c5, rfl⟩ := Kd.V_slice hV5; have V5 := Aside0.mk hV5; have HB5 := Aside0.mk hB5; clear hV5 hB5)
     obtain ⟨w6, hw6⟩ : ∃ w6, w6 = w5.alloc (wordsR (.slice A5 l.length c5) b1) := ⟨_, rfl⟩
     have L6 := Aside0.mk (L.out.below (below_alloc HB5.out (wordsR (.slice A5 l.length c5) b1)))
     have V6 := Aside0.mk (show Kd.V (Kd.int .u64) 23 (w5.alloc (wordsR (.slice A5 l.length c5) b1)) 0 (Fm s go gn (.slice Ai items.length ci)) (.slice A5 l.length c5) l from
      Kd.V_alloc (Kd.V_map (Kd.V_mono V5.out (fun k hk => hk.elim id (fun h => L.out.fresh h))) (fun _ h => h)) _)
     have N6 := Aside0.mk (blk_new w5 (wordsR (.slice A5 l.length c5) b1))
     change Code.wp _ _ _ _ (w5.alloc (wordsR (.slice A5 l.length c5) b1))
     rw [← hw6] at L6 V6 N6
     rw [← hw6]
     clear hw6 L HB5 V5 n0 n1 g0 g2 hb1 d1
     generalize w5.heap.size = gv at *
     obtain ⟨Z, hZ⟩ : ∃ Z, (if fst = true then X' else Y') = Z := ⟨_, rfl⟩
     rw [hZ] at hway
     have hZl : Z.length ≤ 1024 := by rw [← hZ]; split <;> first | exact I.out.2.1 | exact I.out.2.2.1
     go_upto_if 93 with (fail)
     go_cut [18] (fun v18 wc => ∃ (Az : Option Addr) (cz : Nat), v18 = .slice Az Z.length cz ∧ Aside0 (Kd.V Kd.string 9 wc 0 (Fm s go gn (.slice Ai items.length ci)) (.slice Az Z.length cz) Z) ∧ Aside0 (Lq w wc s go gn K T A c l a Ax cx X' Ay cy Y' (.slice Ai items.length ci) items A' c' a' ∧ Kd.V (Kd.int .u64) 23 wc 0 (Fm s go gn (.slice Ai items.length ci)) (.slice A5 l.length c5) l ∧ wc.heap[gv]? = some (wordsR (.slice A5 l.length c5) b1)))
     case first =>
      cases fst
      ·
       have hf2 := of_decide_eq_false hf
       obtain rfl : Y' = Z := hZ
       go_wp2_with (fail)
       all_goals first
        | (exfalso; omega)
        | (go_meet; case rel => exact ⟨Ay, cy, rfl, ⟨L6.out.y⟩, ⟨L6.out, V6.out, N6.out⟩⟩)
      ·
       have hf2 := of_decide_eq_true hf
       obtain rfl : X' = Z := hZ
       go_wp2_with (fail)
       all_goals first
        | (exfalso; omega)
        | (go_meet; case rel => exact ⟨Ax, cx, rfl, ⟨L6.out.x⟩, ⟨L6.out, V6.out, N6.out⟩⟩)
     case rest =>
      obtain ⟨Az, cz, rfl, VZ, U⟩ := hcut
      clear L6 V6 N6
      have n0 : wc.cell? ⟨gv, 0, none⟩ = some (.slice A5 l.length c5) := (blk_cell U.out.2.2 0).trans rfl
      have n1 : wc.cell? ⟨gv, 1, none⟩ = some (.int .i64 b1) := (blk_cell U.out.2.2 1).trans rfl
      have hZw : IntKind.u64.wrap (Z.length : Int) = (Z.length : Int) := by rw [IntKind.wrap_u64]; omega
      rcases hway with ⟨i, b, rfl, d2, hi0, hi⟩ | ⟨rfl, d2⟩
      ·
       have hb2 := HB.out _ _ _ _ _ (by omega) (by omega) d2
       rw [rounds_yes hp rfl] at hr
       clear hp d2
       go_upto_region 17 with (go_at_call 24; refine (samphireref16_below.calls kf (Fm s go gn (.slice Ai items.length ci)) A5 c5 l b1 (Z.length : Int) i l b 0 wc (Kd.V_map U.out.2.1 (fun _ h => h)) hb2).mono ?_; rintro e7 w7 ⟨v7, rfl, hV7, hB7⟩; obtain ⟨A7, c7, rfl⟩ := Kd.V_slice hV7; have V7 := Aside0.mk hV7; have HB7 := Aside0.mk hB7; clear hV7 hB7)
       obtain ⟨w8, hw8⟩ : ∃ w8, w8 = w7.alloc (wordsR (.slice A7 l.length c7) b) := ⟨_, rfl⟩
       have hb8 := below_alloc HB7.out (wordsR (.slice A7 l.length c7) b)
       have L8 := Aside0.mk (U.out.1.below hb8)
       have VZ8 := Aside0.mk (Kd.V_below VZ.out hb8)
       have V8 := Aside0.mk (show Kd.V (Kd.int .u64) 23 (w7.alloc (wordsR (.slice A7 l.length c7) b)) 0 (Fm s go gn (.slice Ai items.length ci)) (.slice A7 l.length c7) l from
        Kd.V_alloc (Kd.V_map (Kd.V_mono V7.out (fun k hk => hk.elim id (fun h => U.out.1.fresh h))) (fun _ h => h)) _)
       have N8 := Aside0.mk (blk_new w7 (wordsR (.slice A7 l.length c7) b))
       have G8 := Aside0.mk (show gn < w7.heap.size ∧ go < w7.heap.size ∧ some w7.heap.size ≠ (Value.slice Ai items.length ci).ownBlock from ⟨Nat.lt_of_lt_of_le (blk_lt U.out.1.n) HB7.out.size, Nat.lt_of_lt_of_le (blk_lt U.out.1.g) HB7.out.size, fun e => by have := Kd.R_lt U.out.1.i _ e.symm; have := HB7.out.size; omega⟩)
       change Code.wp _ _ _ _ (w7.alloc (wordsR (.slice A7 l.length c7) b))
       rw [← hw8] at L8 VZ8 V8 N8
       rw [← hw8]
       clear hw8 U VZ HB7 V7 hb8 n0 n1 hb2
       generalize w7.heap.size = gz at *
       go_upto_region 19 with (fail)
       obtain ⟨ad, cs, eA, hlen, hK, hcell⟩ := (Kd.V_reads' VZ8.out).2.2.get_ ByteArray.empty i (by omega) (by omega)
       obtain ⟨x, hx⟩ : ∃ x, Z.getD i.toNat ByteArray.empty = x := ⟨_, rfl⟩
       rw [hx] at hK
       obtain rfl : cs = [.string x] := hK
       have hc0 := hcell 0 _ rfl
       have hc1 : w8.cell? (ad.add i.toNat) = some (.string x) := by rw [← Nat.mul_one i.toNat]; exact hc0
       clear hc0 hcell hlen
       cases eA
       have g2 : w8.cell? ⟨go, 2, none⟩ = some (.slice Ai items.length ci) := (blk_cell L8.out.g 2).trans rfl
       have fg2 := blk_frozen L8.out.g 2
       go_cut [] (fun wc => ∃ (A9 : Option Addr) (c9 : Nat), Aside0 (Lq w wc s go gn K T A c l a Ax cx X' Ay cy Y' (.slice A9 (items.length + 1) c9) (items ++ [x]) A' c' a' ∧ Kd.V (Kd.int .u64) 23 wc 0 (Fm s go gn (.slice A9 (items.length + 1) c9)) (.slice A7 l.length c7) l ∧ wc.heap[gz]? = some (wordsR (.slice A7 l.length c7) b)))
       case first =>
        have lz := Nat.le_trans hsw (Nat.le_of_lt (Nat.lt_of_lt_of_le (show s < go by have := L8.out.ne; omega) (Nat.le_of_lt (blk_lt L8.out.g))))
        have hlen2 : items.length ≤ 1024 := by have := I.out.2.2.2.1; omega
        have g2a : ∀ o : Obj, (w8.alloc o).cell? ⟨go, 2, none⟩ = some (.slice Ai items.length ci) := fun o => (blk_cell (blk_alloc L8.out.g o) 2).trans rfl
        go_region_law ((refine Kd.R_append_step Kd.string (w0 := w) (W := w8.drew) w.heap.size (by rfl) (.tmp 110) (.tmp 115) 24 9 (.string ⟨#[]⟩) 16 (by rfl) Try.underlying24 Go.Proofs.Ythgacimoifbhiaa.Q.info9 rfl (by decide) (by decide) (.slice Ai items.length ci) items x [.string x] (fun k_ => w.heap.size ≤ k_) (fun _ => False) (by rfl) (by rfl) ?aP (fun _ hk => hk.elim) ?aF ?aO ?aB ?aS ?aL ?_; (case aP => exact rfl); (case aF => exact fun k_ hk => Nat.le_trans lz hk); (case aO => exact Kd.R_drew L8.out.i); (case aB => exact L8.out.bel.drew); (case aS => exact lz); (case aL => omega); intro vj w9 ho hb hg hat; obtain ⟨A9, c9, rfl⟩ := Kd.R_slice ho; have H9 := Aside0.mk (And.intro ho (And.intro hb (And.intro hg hat))); have g2 : w9.cell? ⟨go, 2, none⟩ = some (.slice Ai items.length ci) := (blk_cell (blk_grown (blk_drew L8.out.g) hg (fun e => (L8.out.own go e.symm).2.2.2.1 rfl)) 2).trans rfl; have fg2 := blk_frozen (blk_grown (blk_drew L8.out.g) hg (fun e => (L8.out.own go e.symm).2.2.2.1 rfl)) 2; clear ho hb hg hat))
        all_goals
         go_wp2
         go_meet
        all_goals
         have hd8 := below_drew (Below.refl w8.heap.size w8)
         have H10 := H9.out
         rw [List.length_append, List.length_singleton] at H10
         have hzg : gz ≠ go := fun e => by have := G8.out.2.1; omega
         have N9 : (w9.setCell ⟨go, 2, none⟩ (.slice A9 (items.length + 1) c9)).heap[gz]? = some (wordsR (.slice A7 l.length c7) b) := blk_far (blk_grown (blk_drew N8.out) H10.2.2.1 G8.out.2.2) hzg _
         exact ⟨A9, c9, ⟨(L8.out.below hd8).app H10.1 H10.2.1 H10.2.2.1 H10.2.2.2, (L8.out.below hd8).appV H10.2.2.1 H10.2.2.2 (Kd.V_drew V8.out), N9⟩⟩
       case rest =>
        obtain ⟨A9, c9, U⟩ := hcut
        have hx2 : rdOf ByteArray.empty Z i = x := hx
        clear L8 VZ8 V8 N8 g2 fg2 hc1 hx
        have hi64 : wrap64 i = i := by unfold wrap64; omega
        have hY1 := I.out
        cases fst
        ·
         have hf2 := of_decide_eq_false hf
         have hf3 : decide (j1 < nx) = false := hf
         obtain rfl : Y' = Z := hZ
         go_upto_region 25 with (go_at_call 28; refine (samphireref16_without.calls kf Ay cy Y' i (Q.leftOf Y' i) wc (Kd.V_reads' U.out.1.y).2.2 (Kd.V_reads' U.out.1.y).2.1 (HW.out Y' i hZl hi0 (by omega))).mono ?_; rintro e3 w3' ⟨v3, rfl, hR3, hB3⟩; obtain ⟨A3, c3, rfl⟩ := Kd.R_slice hR3; have R3 := Aside0.mk (Kd.R_reok rfl hR3 (fun k hk => Kd.R_base hR3 k hk)); have HB3 := Aside0.mk hB3; clear hR3 hB3)
         have L10 := Aside0.mk ((U.out.1.below HB3.out).sety (Kd.V_mono (Kd.V_map (Kd.R_V (base' := 0) R3.out) (fun _ h => h)) (fun k hk => U.out.1.fresh hk)))
         have V10 := Aside0.mk (Kd.V_below U.out.2.1 HB3.out)
         have z0 : w3'.cell? ⟨gz, 0, none⟩ = some (.slice A7 l.length c7) := (blk_cell (blk_below U.out.2.2 HB3.out) 0).trans rfl
         have z1 : w3'.cell? ⟨gz, 1, none⟩ = some (.int .i64 b) := (blk_cell (blk_below U.out.2.2 HB3.out) 1).trans rfl
         have m0 : w3'.cell? ⟨gn, 0, none⟩ = some (.slice A' l.length c') := (blk_cell L10.out.n 0).trans rfl
         have m1 : w3'.cell? ⟨gn, 1, none⟩ = some (.int .i64 a') := (blk_cell L10.out.n 1).trans rfl
         have fm0 := blk_frozen L10.out.n 0
         have fm1 := blk_frozen L10.out.n 1
         have L11 := Aside0.mk (L10.out.next (b := b) V10.out)
         change rounds er F l d _ _ _ _ b (items ++ [rdOf ByteArray.empty Y' i]) = some r at hr
         rw [hx2] at hr
         have ed : d = m - (j + 1) := by omega
         rw [ed] at hr
         clear U R3 HB3 I
         go_wp2_with (fail)
         exact ⟨⟨j + 1, nx, IntKind.u64.wrap (ny - 1), b, X', Q.leftOf Y' i, items ++ [x], _, Ax, cx, A3, c3, A7, c7, rfl, rfl, rfl, rfl, by omega, L11, ⟨hr, hY1.2.1, by rw [leftOf_length]; omega, by rw [List.length_append, hY1.2.2.2.1]; rfl, by rw [wrap_less2 hY1.2.2.2.2 (by omega)]; omega⟩⟩, by simp only [intOf]; rw [wrap_less2 hY1.2.2.2.2 (by omega), hY1.2.2.2.2]; omega⟩
        ·
         have hf2 := of_decide_eq_true hf
         have hf3 : decide (j1 < nx) = true := hf
         obtain rfl : X' = Z := hZ
         go_upto_region 25 with (go_at_call 28; refine (samphireref16_without.calls kf Ax cx X' i (Q.leftOf X' i) wc (Kd.V_reads' U.out.1.x).2.2 (Kd.V_reads' U.out.1.x).2.1 (HW.out X' i hZl hi0 (by omega))).mono ?_; rintro e3 w3' ⟨v3, rfl, hR3, hB3⟩; obtain ⟨A3, c3, rfl⟩ := Kd.R_slice hR3; have R3 := Aside0.mk (Kd.R_reok rfl hR3 (fun k hk => Kd.R_base hR3 k hk)); have HB3 := Aside0.mk hB3; clear hR3 hB3)
         have L10 := Aside0.mk ((U.out.1.below HB3.out).setx (Kd.V_mono (Kd.V_map (Kd.R_V (base' := 0) R3.out) (fun _ h => h)) (fun k hk => U.out.1.fresh hk)))
         have V10 := Aside0.mk (Kd.V_below U.out.2.1 HB3.out)
         have z0 : w3'.cell? ⟨gz, 0, none⟩ = some (.slice A7 l.length c7) := (blk_cell (blk_below U.out.2.2 HB3.out) 0).trans rfl
         have z1 : w3'.cell? ⟨gz, 1, none⟩ = some (.int .i64 b) := (blk_cell (blk_below U.out.2.2 HB3.out) 1).trans rfl
         have m0 : w3'.cell? ⟨gn, 0, none⟩ = some (.slice A' l.length c') := (blk_cell L10.out.n 0).trans rfl
         have m1 : w3'.cell? ⟨gn, 1, none⟩ = some (.int .i64 a') := (blk_cell L10.out.n 1).trans rfl
         have fm0 := blk_frozen L10.out.n 0
         have fm1 := blk_frozen L10.out.n 1
         have L11 := Aside0.mk (L10.out.next (b := b) V10.out)
         change rounds er F l d _ _ _ _ b (items ++ [rdOf ByteArray.empty X' i]) = some r at hr
         rw [hx2] at hr
         have ed : d = m - (j + 1) := by omega
         rw [ed] at hr
         clear U R3 HB3 I
         go_wp2_with (fail)
         exact ⟨⟨j + 1, IntKind.u64.wrap (nx - 1), ny, b, Q.leftOf X' i, Y', items ++ [x], _, A3, c3, Ay, cy, A7, c7, rfl, rfl, rfl, rfl, by omega, L11, ⟨hr, by rw [leftOf_length]; omega, hY1.2.2.1, by rw [List.length_append, hY1.2.2.2.1]; rfl, by rw [wrap_less hY1.2.2.2.2 (by omega)]; omega⟩⟩, by simp only [intOf]; rw [wrap_less hY1.2.2.2.2 (by omega), hY1.2.2.2.2]; omega⟩
      ·
       rw [rounds_no hp rfl] at hr
       obtain rfl : r = none := (Option.some.inj hr).symm
       have hb2 := HB.out _ _ _ _ _ (by omega) (by omega) d2
       clear hr hp d2
       go_upto_region 17 with (go_at_call 24; refine (samphireref16_below.calls kf (Fm s go gn (.slice Ai items.length ci)) A5 c5 l b1 (Z.length : Int) 0 l b1 er wc (Kd.V_map U.out.2.1 (fun _ h => h)) hb2).mono ?_; rintro e7 w7 ⟨v7, rfl, hV7, hB7⟩; obtain ⟨A7, c7, rfl⟩ := Kd.V_slice hV7; have HB7 := Aside0.mk hB7; clear hV7 hB7)
       obtain ⟨w8, hw8⟩ : ∃ w8, w8 = w7.alloc (wordsR (.slice A7 l.length c7) b1) := ⟨_, rfl⟩
       have L8 := Aside0.mk (U.out.1.below (below_alloc HB7.out (wordsR (.slice A7 l.length c7) b1)))
       change Code.wp _ _ _ _ (w7.alloc (wordsR (.slice A7 l.length c7) b1))
       rw [← hw8] at L8
       rw [← hw8]
       have Q5 := Aside0.mk L8.out.o
       have Q6 := Aside0.mk L8.out.r
       have Q7 := Aside0.mk L8.out.q
       have QB := Aside0.mk L8.out.bel
       clear hw8 U VZ I HB7 L8 n0 n1
       go_upto_region 18 with (fail)
       have h50 : w8.cell? ⟨s + 1 + 1, 0, none⟩ = some (.slice A l.length c) := (blk_cell Q5.out 0).trans rfl
       have h51 : w8.cell? ⟨s + 1 + 1, 1, none⟩ = some (.int .i64 a) := (blk_cell Q5.out 1).trans rfl
       have h60 : w8.cell? ⟨s + 1 + 1 + 1, 0, none⟩ = some (.int .i64 0) := (blk_cell Q6.out 0).trans rfl
       have h61 : w8.cell? ⟨s + 1 + 1 + 1, 1, none⟩ = some (.int .u64 0) := (blk_cell Q6.out 1).trans rfl
       have h62 : w8.cell? ⟨s + 1 + 1 + 1, 2, none⟩ = some (.slice none 0 0) := (blk_cell Q6.out 2).trans rfl
       have h70 : w8.cell? ⟨s + 1 + 1 + 1 + 1, 0, none⟩ = some (.slice none 0 0) := (blk_cell Q7.out 0).trans rfl
       have h71 : w8.cell? ⟨s + 1 + 1 + 1 + 1, 1, none⟩ = some (.int .i64 0) := (blk_cell Q7.out 1).trans rfl
       have f60 := blk_frozen Q6.out 0
       have f61 := blk_frozen Q6.out 1
       have f62 := blk_frozen Q6.out 2
       have f70 := blk_frozen Q7.out 0
       have f71 := blk_frozen Q7.out 1
       go_region_with (fail)
       all_goals
        go_wp2
        refine bodyPost_ret (results_list (rs := [.cell 6 41, .cell 7 40, .tmp 8]) rfl (by simp) (.cell (s + 1 + 1 + 1) 41 #[.int .i64 0, .int .u64 0, .slice none 0 0] (0, 0) _ rfl ?b6 Try.underlying41 rfl (by kernel_rfl) (.cell (s + 1 + 1 + 1 + 1) 40 #[.slice A l.length c, .int .i64 a] (0, 0) _ rfl ?b7 Try.underlying40 rfl (by kernel_rfl) (.tmp .nil)))) rfl ?post
        case b6 => first
         | exact blk_drew (blk_far (blk_far (put41 Q6.out 0 0 (.slice none 0 0)) (by simp) _) (by simp) _)
         | exact blk_drew (put41 (blk_far (blk_far Q6.out (by simp) _) (by simp) _) 0 0 (.slice none 0 0))
        case b7 => first
         | exact blk_drew (put40 (blk_far (blk_far (blk_far Q7.out (by simp) _) (by simp) _) (by simp) _) (.slice A l.length c) a)
         | exact blk_drew (blk_far (blk_far (blk_far (put40 Q7.out (.slice A l.length c) a) (by simp) _) (by simp) _) (by simp) _)
        case post => exact ⟨rfl, below_drew1 (set5 QB.out (by dsimp only; omega) (by dsimp only; omega) (by dsimp only; omega) (by dsimp only; omega) (by dsimp only; omega))⟩
   ·
    obtain rfl : j = m := by omega
    have hr := I.out.1
    rw [Nat.sub_self] at hr
    obtain rfl : r = some (items, a') := (Option.some.inj hr).symm
    clear hr
    have hc2 : decide ((items.length : Int) < K) = false ∨ (decide ((items.length : Int) < K) = true ∧ decide (0 < IntKind.u64.wrap (nx + ny)) = false) := by
     rw [I.out.2.2.2.1, I.out.2.2.2.2]
     by_cases hjk : (j : Int) < K
     ·
      exact .inr ⟨decide_eq_true hjk, decide_eq_false (by omega)⟩
     ·
      exact .inl (decide_eq_false hjk)
    have n0 : wr.cell? ⟨gn, 0, none⟩ = some (.slice A' l.length c') := (blk_cell L.out.n 0).trans rfl
    have n1 : wr.cell? ⟨gn, 1, none⟩ = some (.int .i64 a') := (blk_cell L.out.n 1).trans rfl
    have g1 : wr.cell? ⟨go, 1, none⟩ = some (.int .u64 T) := (blk_cell L.out.g 1).trans rfl
    have h60 : wr.cell? ⟨s + 1 + 1 + 1, 0, none⟩ = some (.int .i64 0) := (blk_cell L.out.r 0).trans rfl
    have h61 : wr.cell? ⟨s + 1 + 1 + 1, 1, none⟩ = some (.int .u64 0) := (blk_cell L.out.r 1).trans rfl
    have h62 : wr.cell? ⟨s + 1 + 1 + 1, 2, none⟩ = some (.slice none 0 0) := (blk_cell L.out.r 2).trans rfl
    have h70 : wr.cell? ⟨s + 1 + 1 + 1 + 1, 0, none⟩ = some (.slice none 0 0) := (blk_cell L.out.q 0).trans rfl
    have h71 : wr.cell? ⟨s + 1 + 1 + 1 + 1, 1, none⟩ = some (.int .i64 0) := (blk_cell L.out.q 1).trans rfl
    have f60 := blk_frozen L.out.r 0
    have f61 := blk_frozen L.out.r 1
    have f62 := blk_frozen L.out.r 2
    have f70 := blk_frozen L.out.q 0
    have f71 := blk_frozen L.out.q 1
    have hne := L.out.ne
    have hlo := L.out.lo
    have hgn : gn ≠ s + 1 + 1 + 1 ∧ gn ≠ s + 1 + 1 + 1 + 1 ∧ go ≠ s + 1 + 1 + 1 ∧ go ≠ s + 1 + 1 + 1 + 1 := by omega
    clear I
    rcases hc2 with hc2 | ⟨hc2, hc3⟩
    ·
     go_upto_region 26 with (fail)
     go_region_held3 (fun w' => w'.cell? ⟨go, 0, none⟩ = some (.int .i64 K) ∧ w'.cell? ⟨go, 1, none⟩ = some (.int .u64 T) ∧ w'.cell? ⟨go, 2, none⟩ = some (.slice Ai items.length ci) ∧ w'.cell? ⟨gn, 0, none⟩ = some (.slice A' l.length c') ∧ w'.cell? ⟨gn, 1, none⟩ = some (.int .i64 a'))
      ((refine heldR (?_ : _ = some (sampleR K T (.slice Ai items.length ci))) (?_ : _ = some (wordsR (.slice A' l.length c') a')) <;> repeat (with_reducible first | exact L.out.g | exact L.out.n | refine blk_drew ?_ | refine blk_far ?_ (by dsimp only; omega) _)))
      (fail)
     all_goals
      go_wp2
      refine bodyPost_ret (results_list (rs := [.cell 6 41, .cell 7 40, .tmp 8]) rfl (by simp) (.cell (s + 1 + 1 + 1) 41 #[.int .i64 K, .int .u64 T, .slice Ai items.length ci] (0, 0) _ rfl ?b6 Try.underlying41 rfl (by kernel_rfl) (.cell (s + 1 + 1 + 1 + 1) 40 #[.slice A' l.length c', .int .i64 a'] (0, 0) _ rfl ?b7 Try.underlying40 rfl (by kernel_rfl) (.tmp .nil)))) rfl ?post
      case b6 => first
       | exact blk_drew (blk_far (blk_far (put41 L.out.r K T (.slice Ai items.length ci)) (by simp) _) (by simp) _)
       | exact blk_drew (put41 (blk_far (blk_far L.out.r (by simp) _) (by simp) _) K T (.slice Ai items.length ci))
      case b7 => first
       | exact blk_drew (put40 (blk_far (blk_far (blk_far L.out.q (by simp) _) (by simp) _) (by simp) _) (.slice A' l.length c') a')
       | exact blk_drew (blk_far (blk_far (blk_far (put40 L.out.q (.slice A' l.length c') a') (by simp) _) (by simp) _) (by simp) _)
      case post =>
       rw [hT]
       have hR8 := Kd.R_tight2 rfl L.out.i
       have h6 : ∀ k, (some k = (Value.slice Ai items.length ci).ownBlock ∧ w.heap.size ≤ k) → k ≠ s + 1 + 1 + 1 := fun k hk => (L.out.own k hk.1.symm).2.1
       have h7 : ∀ k, (some k = (Value.slice Ai items.length ci).ownBlock ∧ w.heap.size ≤ k) → k ≠ s + 1 + 1 + 1 + 1 := fun k hk => (L.out.own k hk.1.symm).2.2.1
       refine ⟨.slice Ai items.length ci, A', c', rfl, ?_, below_drew1 (set5 L.out.bel (by dsimp only; omega) (by dsimp only; omega) (by dsimp only; omega) (by dsimp only; omega) (by dsimp only; omega))⟩
       first
        | exact Kd.R_mono (Kd.R_drew (Kd.R_far (Kd.R_far (Kd.R_far (Kd.R_far (Kd.R_far hR8 h6 _) h6 _) h6 _) h7 _) h7 _)) (fun _ _ => trivial)
        | exact Kd.R_mono (Kd.R_drew (Kd.R_far (Kd.R_far (Kd.R_far (Kd.R_far (Kd.R_far hR8 h7 _) h7 _) h6 _) h6 _) h6 _)) (fun _ _ => trivial)
    ·
     go_upto_region 26 with (fail)
     go_region_held3 (fun w' => w'.cell? ⟨go, 0, none⟩ = some (.int .i64 K) ∧ w'.cell? ⟨go, 1, none⟩ = some (.int .u64 T) ∧ w'.cell? ⟨go, 2, none⟩ = some (.slice Ai items.length ci) ∧ w'.cell? ⟨gn, 0, none⟩ = some (.slice A' l.length c') ∧ w'.cell? ⟨gn, 1, none⟩ = some (.int .i64 a'))
      ((refine heldR (?_ : _ = some (sampleR K T (.slice Ai items.length ci))) (?_ : _ = some (wordsR (.slice A' l.length c') a')) <;> repeat (with_reducible first | exact L.out.g | exact L.out.n | refine blk_drew ?_ | refine blk_far ?_ (by dsimp only; omega) _)))
      (fail)
     all_goals
      go_wp2
      refine bodyPost_ret (results_list (rs := [.cell 6 41, .cell 7 40, .tmp 8]) rfl (by simp) (.cell (s + 1 + 1 + 1) 41 #[.int .i64 K, .int .u64 T, .slice Ai items.length ci] (0, 0) _ rfl ?b6 Try.underlying41 rfl (by kernel_rfl) (.cell (s + 1 + 1 + 1 + 1) 40 #[.slice A' l.length c', .int .i64 a'] (0, 0) _ rfl ?b7 Try.underlying40 rfl (by kernel_rfl) (.tmp .nil)))) rfl ?post
      case b6 => first
       | exact blk_drew (blk_far (blk_far (put41 L.out.r K T (.slice Ai items.length ci)) (by simp) _) (by simp) _)
       | exact blk_drew (put41 (blk_far (blk_far L.out.r (by simp) _) (by simp) _) K T (.slice Ai items.length ci))
      case b7 => first
       | exact blk_drew (put40 (blk_far (blk_far (blk_far L.out.q (by simp) _) (by simp) _) (by simp) _) (.slice A' l.length c') a')
       | exact blk_drew (blk_far (blk_far (blk_far (put40 L.out.q (.slice A' l.length c') a') (by simp) _) (by simp) _) (by simp) _)
      case post =>
       rw [hT]
       have hR8 := Kd.R_tight2 rfl L.out.i
       have h6 : ∀ k, (some k = (Value.slice Ai items.length ci).ownBlock ∧ w.heap.size ≤ k) → k ≠ s + 1 + 1 + 1 := fun k hk => (L.out.own k hk.1.symm).2.1
       have h7 : ∀ k, (some k = (Value.slice Ai items.length ci).ownBlock ∧ w.heap.size ≤ k) → k ≠ s + 1 + 1 + 1 + 1 := fun k hk => (L.out.own k hk.1.symm).2.2.1
       refine ⟨.slice Ai items.length ci, A', c', rfl, ?_, below_drew1 (set5 L.out.bel (by dsimp only; omega) (by dsimp only; omega) (by dsimp only; omega) (by dsimp only; omega) (by dsimp only; omega))⟩
       first
        | exact Kd.R_mono (Kd.R_drew (Kd.R_far (Kd.R_far (Kd.R_far (Kd.R_far (Kd.R_far hR8 h6 _) h6 _) h6 _) h7 _) h7 _)) (fun _ _ => trivial)
        | exact Kd.R_mono (Kd.R_drew (Kd.R_far (Kd.R_far (Kd.R_far (Kd.R_far (Kd.R_far hR8 h7 _) h7 _) h6 _) h6 _) h6 _)) (fun _ _ => trivial)
end Go.Proofs.Ythgacimoifbhiaa
