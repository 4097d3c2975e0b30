import Derived.Test.YtbpcehbcbcojiaaRd
namespace Go.Proofs.Ytbpcehbcbcojiaa
open Go.RowKit Go.Proofs.YtbpcehbcbcojiaaW.PrintWords Go.Proofs.YtbpcehbcbcojiaaW.PrintLast
set_option linter.unusedVariables false
set_option linter.unusedSimpArgs false
attribute [local go_sem] run_store_zero at0_new at0_next at0_old at0_old2 at0_row at0_old_row at0_drew
theorem V_lt9 {h l : Nat} (h1 : W64 h) (h2 : W64 l) : V h l < 340282366920938463463374607431768211456 := by unfold V; omega
theorem sub_start (A C : Nat) (h : C ≤ A) : A / 65536 ^ 0 = (A - C) / 65536 ^ 0 + C / 65536 ^ 0 + 0 := by simp; omega
theorem w64d {x y m : Nat} (h : x = m + y) (hm : m < 18446744073709551616) : IntKind.u64.wrap ((x : Int) - (y : Int)) = (m : Int) := by
 rw [show (x : Int) - (y : Int) = (m : Int) by omega]; exact u64w m hm
theorem sub_next {A C k o x y : Nat} (h : A / 65536 ^ k = (A - C) / 65536 ^ k + C / 65536 ^ k + o) (ho : o ≤ 1) (vx : x = Dg.D A k) (vy : y = Dg.D C k) :
  ∃ m m2 n r q p : Nat, IntKind.u64.wrap (65536 + (x : Int)) = (m : Int) ∧ IntKind.u64.wrap ((m : Int) - (y : Int)) = (m2 : Int) ∧ IntKind.u64.wrap ((m2 : Int) - (o : Int)) = (n : Int) ∧ (n : Int) % 65536 = (r : Int) ∧ IntKind.u64.wrap ((n : Int) / 65536) = (q : Int) ∧ IntKind.u64.wrap (1 - (q : Int)) = (p : Int) ∧
   r = Dg.D (A - C) k ∧ A / 65536 ^ (k + 1) = (A - C) / 65536 ^ (k + 1) + C / 65536 ^ (k + 1) + p ∧ p ≤ 1 := by
 obtain ⟨e1, e2, e3⟩ := Dg.sub_step h ho
 rw [Dg.div_succ, Dg.div_succ, Dg.div_succ]
 unfold Dg.D at vx vy ⊢
 rw [← vx, ← vy] at e1 e2 e3
 have lx : x < 65536 := by rw [vx]; exact Nat.mod_lt _ (by decide)
 have ly : y < 65536 := by rw [vy]; exact Nat.mod_lt _ (by decide)
 generalize (A - C) / 65536 ^ k = s at *
 generalize A / 65536 ^ k = a at *
 generalize C / 65536 ^ k = b at *
 have hq : (65536 + x - y - o) / 65536 ≤ 1 := e3
 refine ⟨65536 + x, 65536 + x - y, 65536 + x - y - o, s % 65536, (65536 + x - y - o) / 65536, 1 - (65536 + x - y - o) / 65536, w64s (x := 65536) rfl (by omega), w64d (by omega) (by omega), w64d (by omega) (by omega), ?_, ?_, ?_, rfl, e2, by omega⟩
 ·
  generalize 65536 + x - y - o = n at *; omega
 ·
  generalize 65536 + x - y - o = n at *; rw [IntKind.wrap_u64]; omega
 ·
  exact w64d (x := 1) (by omega) (by omega)
set_option maxRecDepth 100000 in
set_option maxHeartbeats 4000000 in
theorem subD_any (ah al bh bl : Nat) (h1 : W64 ah) (h2 : W64 al) (h3 : W64 bh) (h4 : W64 bl) (w : World) (rh rl : Nat) (ok : Bool)
  (hr : if V bh bl ≤ V ah al then ok = true ∧ rh = HI (V ah al - V bh bl) ∧ rl = LO (V ah al - V bh bl) else ok = false ∧ rh = 0 ∧ rl = 0) :
  Calls Try.prog 23 #[U ah al, U bh bl] w fun e w' => e = .returned (.tuple #[U rh rl, .bool ok]) ∧ Below w.heap.size w w' := by
 have FC := Lib.hid (cmpD_any ah al bh bl h1 h2 h3 h4)
 have dA5 := Lib.hid (fun j (hj : j < 8) => dgA_V ah al j h2 hj)
 have dA6 := Lib.hid (fun j (hj : j < 8) => dgA_V bh bl j h4 hj)
 have tA := Lib.hid (V_lt9 h1 h2)
 generalize V ah al = A at *
 generalize V bh bl = C at *
 have HR := Lib.hid hr
 clear hr
 have F1 := Lib.hid (digits_any ah al h1 h2)
 have F2 := Lib.hid (digits_any bh bl h3 h4)
 have hz := dA8_zero
 go_enter Try.func23, Try.ntmps23
 go_upto_region 1 with (fail)
 obtain ⟨w9, hw9⟩ : ∃ w9, w9 = ((w.alloc (box2 ah al)).alloc (box2 bh bl)).alloc (box2 0 0) := ⟨_, rfl⟩
 obtain ⟨s, hs⟩ : ∃ s, s = w.heap.size := ⟨_, rfl⟩
 have B0 := Aside0.mk (show Below w.heap.size w w9 by rw [hw9]; exact ba (ba (ba (Below.refl _ _) _) _) _)
 have A0 := Aside0.mk (show w9.heap[s]? = some (box2 ah al) by rw [hw9, hs]; exact heap3_old _ _ _ _)
 have A1 := Aside0.mk (show w9.heap[s + 1]? = some (box2 bh bl) by rw [hw9, hs]; exact heap3_mid _ _ _ _)
 have A2 := Aside0.mk (show w9.heap[s + 1 + 1]? = some (box2 0 0) by rw [hw9, hs]; exact heap3_new _ _ _ _)
 change Code.wp _ _ _ _ (((w.alloc (box2 ah al)).alloc (box2 bh bl)).alloc (box2 0 0))
 rw [← hw9, ← hs]
 have HS := Lib.hid hs
 clear hw9 hs
 have a0 : w9.cell? ⟨s, 0, none⟩ = some (.int .u64 (ah : Int)) := (blk_cell A0.out 0).trans rfl
 have a1 : w9.cell? ⟨s, 1, none⟩ = some (.int .u64 (al : Int)) := (blk_cell A0.out 1).trans rfl
 have b0 : w9.cell? ⟨s + 1, 0, none⟩ = some (.int .u64 (bh : Int)) := (blk_cell A1.out 0).trans rfl
 have b1 : w9.cell? ⟨s + 1, 1, none⟩ = some (.int .u64 (bl : Int)) := (blk_cell A1.out 1).trans rfl
 by_cases hle : C ≤ A
 ·
  have h := HR.out
  rw [if_pos hle] at h
  obtain ⟨rfl, k2, k3⟩ := h
  have hcm : decide (cmpR A C < 0) = false := decide_eq_false (by unfold cmpR; rw [if_neg (by omega)]; split <;> decide)
  have HLE := Lib.hid hle
  have HK2 := Lib.hid k2
  have HK3 := Lib.hid k3
  clear hle k2 k3 HR
  generalize cmpR A C = cm at FC hcm
  go_upto_region 3 with (go_at_call 25; refine (FC.out _).mono ?_; rintro e w0 ⟨rfl, hb0⟩; have C0 := Aside0.mk (blk_below A0.out hb0); have C1 := Aside0.mk (blk_below A1.out hb0); have C2 := Aside0.mk (blk_below A2.out hb0); have D0 := Aside0.mk (below_step B0.out hb0); clear hb0)
  clear A0 A1 A2 B0 a0 a1 b0 b1 FC
  have a0 : w0.cell? ⟨s, 0, none⟩ = some (.int .u64 (ah : Int)) := (blk_cell C0.out 0).trans rfl
  have a1 : w0.cell? ⟨s, 1, none⟩ = some (.int .u64 (al : Int)) := (blk_cell C0.out 1).trans rfl
  have b0 : w0.cell? ⟨s + 1, 0, none⟩ = some (.int .u64 (bh : Int)) := (blk_cell C1.out 0).trans rfl
  have b1 : w0.cell? ⟨s + 1, 1, none⟩ = some (.int .u64 (bl : Int)) := (blk_cell C1.out 1).trans rfl
  have B9 := Aside0.mk (Below.refl w0.heap.size w0)
  have K0 := Lib.hid (keepAB C0.out C1.out)
  go_cut [6, 7] (fun v5 v6 wc => ∃ g5 g6 : Nat, v5 = .pointer (some ⟨g5, 0, none⟩) ∧ v6 = .pointer (some ⟨g6, 0, none⟩) ∧ Aside0 (wc.heap[g5]? = some (boxA (dgA ah al 4)) ∧ wc.heap[g6]? = some (boxA (dgA bh bl 4)) ∧ g5 ≠ g6 ∧ w0.heap.size ≤ g5 ∧ w0.heap.size ≤ g6 ∧ Below w0.heap.size w0 wc))
  case first =>
   go_region_held3 (fun w' => w'.cell? ⟨s, 0, none⟩ = some (.int .u64 (ah : Int)) ∧ w'.cell? ⟨s, 1, none⟩ = some (.int .u64 (al : Int)) ∧ w'.cell? ⟨s + 1, 0, none⟩ = some (.int .u64 (bh : Int)) ∧ w'.cell? ⟨s + 1, 1, none⟩ = some (.int .u64 (bl : Int)) ∧ Below w0.heap.size w0 w')
    ((refine K0.out _ ?_; repeat (with_reducible first | assumption | exact B9.out | exact B1.out | exact B2.out | apply below_alloc | apply below_drew1 | refine below_setRow ?_ ?_ _ | exact Nat.le_refl _ | exact Nat.le_succ _ | exact B1.out.size | exact B2.out.size | exact Nat.le_succ_of_le B1.out.size | exact Nat.le_succ_of_le B2.out.size)))
    (first
     | (go_at_call_of 33 (Value.agg #[Value.int IntKind.u64 (ah : Int), Value.int IntKind.u64 (al : Int)]); refine (F1.out _).mono ?_; rintro e w1 ⟨rfl, hb1⟩; have Z1 := Lib.hid (fun (k : Nat) (o : Obj) h => blk_below (g := k) (o := o) h hb1); have B1 := Aside0.mk (below_step (by repeat (with_reducible first | assumption | exact B9.out | apply below_alloc | apply below_drew1) : Below w0.heap.size w0 _) hb1); clear hb1; (first | (have qA : At0 w1 w0.heap.size := Z1.out _ _ (blk_new _ _)) | (have qA : At0 w1 w0.heap.size := Z1.out _ _ (heap_alloc2_old _ _ _)) | skip); (first | (have qB : At0 w1 (w0.heap.size + 1) := Z1.out _ _ (heap_alloc2_new _ _ _)) | skip); (try (have nA := Nat.ne_of_lt (blk_lt qA); have nA' := Ne.symm nA)); (try (have nB := Nat.ne_of_lt (blk_lt qB); have nB' := Ne.symm nB)))
     | (go_at_call_of 33 (Value.agg #[Value.int IntKind.u64 (bh : Int), Value.int IntKind.u64 (bl : Int)]); refine (F2.out _).mono ?_; rintro e w2 ⟨rfl, hb2⟩; have Z2 := Lib.hid (fun (k : Nat) (o : Obj) h => blk_below (g := k) (o := o) h hb2); have B2 := Aside0.mk (below_step (by repeat (with_reducible first | assumption | exact B1.out | apply below_alloc | apply below_drew1) : Below w0.heap.size w0 _) hb2); clear hb2; (first | (have qA2 : At0 w2 w0.heap.size := Z2.out _ _ qA) | (have qA2 : At0 w2 w0.heap.size := Z2.out _ _ (blk_alloc qA _)) | skip); (first | (have qB2 : At0 w2 (w0.heap.size + 1) := Z2.out _ _ qB) | skip); (first | (have qC2 : At0 w2 w1.heap.size := Z2.out _ _ (blk_new _ _)) | (have qC2 : At0 w2 w1.heap.size := Z2.out _ _ (heap_alloc2_old _ _ _)) | skip); (first | (have qD2 : At0 w2 (w1.heap.size + 1) := Z2.out _ _ (heap_alloc2_new _ _ _)) | skip); (try (have nA2 := Nat.ne_of_lt (blk_lt qA2); have nA2' := Ne.symm nA2)); (try (have nB2 := Nat.ne_of_lt (blk_lt qB2); have nB2' := Ne.symm nB2)); (try (have nC2 := Nat.ne_of_lt (blk_lt qC2); have nC2' := Ne.symm nC2)); (try (have nD2 := Nat.ne_of_lt (blk_lt qD2); have nD2' := Ne.symm nD2))))
   all_goals
    go_wp2
    go_meet
   all_goals
    refine ⟨_, _, rfl, rfl, fin2 ?_ ?_ ?_ ?_ ?_ ?_⟩
    ·
     first | assumption | exact at0_new _ | exact at0_next _ _ | exact at0_old2 _ _ | exact at0_old (by assumption) _
    ·
     first | assumption | exact at0_new _ | exact at0_next _ _ | exact at0_old2 _ _ | exact at0_old (by assumption) _
    ·
     first | assumption | exact Nat.succ_ne_self _ | exact Ne.symm (Nat.succ_ne_self _)
    ·
     first | exact B2.out | exact below_alloc B2.out _ | exact below_alloc (below_alloc B2.out _) _
    ·
     first | exact Nat.le_refl _ | exact Nat.le_succ _ | exact B1.out.size | exact B2.out.size | exact Nat.le_succ_of_le B1.out.size | exact Nat.le_succ_of_le B2.out.size
    ·
     first | exact Nat.le_refl _ | exact Nat.le_succ _ | exact B1.out.size | exact B2.out.size | exact Nat.le_succ_of_le B1.out.size | exact Nat.le_succ_of_le B2.out.size
  case rest =>
   obtain ⟨g5, g6, rfl, rfl, hA⟩ := hcut
   have T := Aside0.mk (show TwA w wc s g5 g6 (Dg.D A) C from ⟨⟨_, hA.out.1, dA5.out⟩, ⟨_, hA.out.2.1, dA6.out⟩, blk_below C2.out hA.out.2.2.2.2.2, below_step D0.out hA.out.2.2.2.2.2⟩)
   have lt5 := Lib.hid (Nat.lt_of_lt_of_le (blk_lt C2.out) hA.out.2.2.2.1)
   have ne56 := Lib.hid hA.out.2.2.1
   clear hA B9 K0 F1 F2 C0 C1 C2 a0 a1 b0 b1 D0 hz dA5 dA6
   go_wp2
   go_loopw [8, 9] (fun o i wr => ∃ k c : Nat, k ≤ 8 ∧ c ≤ 1 ∧ o = .int .u64 (c : Int) ∧ i = .int .i64 (k : Int) ∧ Aside0 (TwA w wr s g5 g6 (fun j => if j < k then Dg.D (A - C) j else Dg.D A j) C ∧ A / 65536 ^ k = (A - C) / 65536 ^ k + C / 65536 ^ k + c)) (fun o i _ => 8 - (intOf i).toNat)
   case atStart => exact ⟨0, 0, by omega, by omega, rfl, rfl, ⟨by simpa using T.out, sub_start A C HLE.out⟩⟩
   case round =>
    obtain ⟨k, c, hk, hc, rfl, rfl, hR⟩ := hrel
    clear T
    by_cases hlt : k < 8
    ·
     have hb : decide ((k : Int) < 8) = true := decide_eq_true (by omega)
     have hk8 : (k : Int) < 8 := by omega
     obtain ⟨fx, hx, hfx⟩ := hR.out.1.x
     obtain ⟨fy, hy, hfy⟩ := hR.out.1.y
     have vx : fx k = Dg.D A k := by rw [hfx k hlt, if_neg (Nat.lt_irrefl k)]
     have vy : fy k = Dg.D C k := hfy k hlt
     have c5 : wr.cell? ⟨g5, k, none⟩ = some (.int .u64 ((fx k : Nat) : Int)) := (blk_cell hx k).trans (dA_get fx 8 k hlt)
     have c6 : wr.cell? ⟨g6, k, none⟩ = some (.int .u64 ((fy k : Nat) : Int)) := (blk_cell hy k).trans (dA_get fy 8 k hlt)
     have f5 := blk_frozen hx k
     obtain ⟨m, m2, n, r, q, p, w1, w2, w3, w4, w5, w6, e1, e2, e3⟩ := sub_next hR.out.2 hc vx vy
     have HT := Lib.hid hR.out.1
     have E1 := Lib.hid e1
     have E2 := Lib.hid e2
     have E3 := Lib.hid e3
     generalize fx k = x at c5 w1
     generalize fy k = y at c6 w2
     clear hx hy hfx hfy hR vx vy e1 e2 e3
     go_wp2
     go_still (by kernel_rfl)
     go_wp2
     go_roundw
     case rel =>
      clear w1 w2 w3 w4 w5 w6 hb hk8
      exact ⟨k + 1, p, hlt, E3.out, rfl, by go_num, ⟨HT.out.step lt5.out ne56.out HS.out k r _ (by rw [E1.out]; exact fill_step _ _ k), E2.out⟩⟩
     case measure => clear w1 w2 w3 w4 w5 w6 hb; simp [intOf]; omega
    ·
     obtain rfl : k = 8 := by omega
     have hT := hR.out.1
     have hlt : A - C < 340282366920938463463374607431768211456 := Nat.lt_of_le_of_lt (Nat.sub_le _ _) tA.out
     have HT := Aside0.mk hT
     obtain ⟨fx, hx, hfx⟩ := hT.x
     have HX := Aside0.mk hx
     have FN := Lib.hid (number_any fx rh rl (by rw [HK2.out]; exact HI_lt hlt) (by rw [HK3.out]; exact LO_lt _) (fun i hi => ⟨by rw [hfx i (by omega), if_pos (by omega), HK3.out]; exact (D_V _ i hi).1, by rw [hfx (4 + i) (by omega), if_pos (by omega), HK2.out]; exact (D_V _ i hi).2⟩))
     clear hx hfx hR hT hlt tA
     go_wp2_with (first
      | (refine wpList_load_row rfl 47 _ rfl g5 rfl 47 (dA fx 8) (0, 0) _ HX.out Try.underlying47 rfl (dA8_info _) ?_)
      | (go_at_call 34; refine (FN.out _).mono ?_; rintro e w4 ⟨rfl, hb4⟩; have q0 : w4.cell? ⟨s + 1 + 1, 0, none⟩ = some (.int .u64 0) := (blk_cell (blk_below HT.out.r hb4) 0).trans rfl; have q1 : w4.cell? ⟨s + 1 + 1, 1, none⟩ = some (.int .u64 0) := (blk_cell (blk_below HT.out.r hb4) 1).trans rfl; have p0 := blk_frozen (blk_below HT.out.r hb4) 0; have p1 := blk_frozen (blk_below HT.out.r hb4) 1; have B4 := Aside0.mk hb4; clear hb4))
     refine bodyPost_ret (results_list (rs := [.cell 4 24, .tmp 5]) rfl (by simp) (.cell (s + 1 + 1) 24 #[.int .u64 (rh : Int), .int .u64 (rl : Int)] (0, 0) _ rfl (put24 (blk_below HT.out.r B4.out) rh rl) Try.underlying24 rfl (by kernel_rfl) (.tmp .nil))) rfl ⟨rfl, ?_⟩
     exact bset (bset (below_step HT.out.b B4.out) _ (by have := HS.out; dsimp only; omega)) _ (by have := HS.out; dsimp only; omega)
 ·
  have h := HR.out
  rw [if_neg hle] at h
  obtain ⟨rfl, rfl, rfl⟩ := h
  have hcm : decide (cmpR A C < 0) = true := decide_eq_true (by unfold cmpR; rw [if_pos (by omega)]; decide)
  clear hle HR F1 F2 dA5 dA6 hz
  generalize cmpR A C = cm at FC hcm
  go_wp2_with (go_at_call 25; refine (FC.out _).mono ?_; rintro e w0 ⟨rfl, hb0⟩; have C2 := Aside0.mk (blk_below A2.out hb0); have D0 := Aside0.mk (below_step B0.out hb0); have q0 : w0.cell? ⟨s + 1 + 1, 0, none⟩ = some (.int .u64 0) := (blk_cell C2.out 0).trans rfl; have q1 : w0.cell? ⟨s + 1 + 1, 1, none⟩ = some (.int .u64 0) := (blk_cell C2.out 1).trans rfl; have p0 := blk_frozen C2.out 0; have p1 := blk_frozen C2.out 1; clear hb0)
  refine bodyPost_ret (results_list (rs := [.cell 4 24, .tmp 5]) rfl (by simp) (.cell (s + 1 + 1) 24 #[.int .u64 ((0 : Nat) : Int), .int .u64 ((0 : Nat) : Int)] (0, 0) _ rfl (put24 C2.out 0 0) Try.underlying24 rfl (by kernel_rfl) (.tmp .nil))) rfl ⟨rfl, ?_⟩
  exact bset (bset D0.out _ (by have := HS.out; dsimp only; omega)) _ (by have := HS.out; dsimp only; omega)
end Go.Proofs.Ytbpcehbcbcojiaa
