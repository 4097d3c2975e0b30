/- The walk of the law ReserveHolds. -/
import Derived.Test.YthgacimoifbhiaaHoldsS
namespace Go.Proofs.Ythgacimoifbhiaa
attribute [local go_sem ↓] Go.wp_at_zero Go.wp_at_succ
open Go.RowKit Go.Proofs.Ythgacimoifbhiaa.Q Go.Proofs.YthgacimoifbhiaaW.PrintWords Go.Proofs.YthgacimoifbhiaaW.PrintLast Go.Proofs.YthgacimoifbhiaaW.PrintMore
set_option linter.unusedVariables false
set_option linter.unusedSimpArgs false
abbrev holdsArgs (k : Int) (AL : Option Addr) (cL : Nat) (L : List ByteArray) (AM : Option Addr) (cM : Nat) (M : List ByteArray) (A : Option Addr) (c : Nat) (l : List Int) : Array Value :=
  #[.int .u8 k, .slice AL L.length cL, .slice AM M.length cM, .slice A l.length c]
set_option maxRecDepth 100000 in
set_option maxHeartbeats 4000000 in
theorem holds_in (kf : Nat) (k n : Int) (AL : Option Addr) (cL : Nat) (L : List ByteArray) (AM : Option Addr) (cM : Nat) (M : List ByteArray) (A : Option Addr) (c : Nat) (l : List Int) (w : World)
    (hL : Kd.C Kd.string w AL L.length L) (hcL : L.length ≤ cL) (hM : Kd.C Kd.string w AM M.length M) (hcM : M.length ≤ cM) (hl : Kd.C (Kd.int .u64) w A l.length l) (hcl : l.length ≤ c)
    (haw : samphirelaw16_awake.f kf = some true) (h1 : samphireref16_Small.f kf L = some true) (h2 : samphireref16_Small.f kf M = some true) (h3 : L.length ≤ 30) (h4 : M.length ≤ 30) (h5 : l.length ≤ 200)
    (hn : wrap64 (1 + wrap64 (k.tmod 10)) = n) (hN : reserve_New.f n = some (n, 0, [], 0))
    (St : Nat → Stt) (stop : Nat) (hst : stop ≤ (L ++ M).length) (hS0 : St 0 = ⟨0, [], 0, [], 0⟩)
    (hstep : ∀ j, j < stop → ((L ++ M).getD j ByteArray.empty).size ≤ 64 ∧ ∃ N X p, reserve_Add.f kf n ((St j).sel (decide ((L.length : Int) ≤ j))).1 ((St j).sel (decide ((L.length : Int) ≤ j))).2 ((L ++ M).getD j ByteArray.empty) l (St j).p = some (n, N, X, l, p, 0) ∧ St (j + 1) = (St j).upd (decide ((L.length : Int) ≤ j)) N X p)
    (hdry : stop < (L ++ M).length → 64 < ((L ++ M).getD stop ByteArray.empty).size ∨ (((L ++ M).getD stop ByteArray.empty).size ≤ 64 ∧ samphireref16_Strings.f kf ((St stop).sel (decide ((L.length : Int) ≤ stop))).2 ((St stop).sel (decide ((L.length : Int) ≤ stop))).2 = some true ∧
      reserve_Add.f kf n ((St stop).sel (decide ((L.length : Int) ≤ stop))).1 ((St stop).sel (decide ((L.length : Int) ≤ stop))).2 ((L ++ M).getD stop ByteArray.empty) l (St stop).p = some (n, ((St stop).sel (decide ((L.length : Int) ≤ stop))).1, ((St stop).sel (decide ((L.length : Int) ≤ stop))).2, l, (St stop).p, 8)))
    (hmerge : stop = (L ++ M).length → ∃ r1 r2 r3 r4 r5 r6, reserve_Merge.f n (St stop).na (St stop).la n (St stop).nb (St stop).lb l (St stop).p = some (r1, r2, r3, r4, r5, r6) ∧
      ((r6 = 8 ∧ r5 = (St stop).p ∧ r3 = []) ∨ (r6 = 0 ∧ r2 = IntKind.u64.wrap ((L ++ M).length : Int) ∧ Good kf n (L ++ M) n (St stop).na (St stop).la ∧ Good kf n (L ++ M) n (St stop).nb (St stop).lb ∧ Good kf n (L ++ M) r1 r2 r3))) :
    Calls Try.prog 6 (holdsArgs k AL cL L AM cM M A c l) w fun e w' => e = .returned (.bool true) ∧ Below w.heap.size w w' := by
  have hu26 := Try.underlying26
  have hu32 := Try.underlying32
  have hu41 := Try.underlying41
  have FA := Lib.hid (fun w => samphirelaw16_awake.calls kf true w haw)
  have F1 := Lib.hid (fun w hr => samphireref16_Small.calls kf AL cL L true w hr hcL h1)
  have F2 := Lib.hid (fun w hr => samphireref16_Small.calls kf AM cM M true w hr hcM h2)
  have FN := Lib.hid (fun w => reserve_New.calls n n 0 [] 0 w hN)
  have HL := Aside0.mk hL
  have HM := Aside0.mk hM
  have HW := Aside0.mk hl
  clear haw h1 h2 hN hL hM hl
  have e3 : decide ((30 : Int) < (L.length : Int)) = false := decide_eq_false (by omega)
  have e4 : decide ((30 : Int) < (M.length : Int)) = false := decide_eq_false (by omega)
  have e5 : decide ((200 : Int) < (l.length : Int)) = false := decide_eq_false (by omega)
  go_enter Try.func6, Try.ntmps6
  go_upto_region 2 with (fail)
  rw [hn]
  clear hn
  have B0 := Aside0.mk (Below.refl w.heap.size w)
  go_upto_region 5 with (first
    | (go_at_call_of 13 (Value.slice AL L.length cL); refine (F1.out _ (Kd.C_below HL.out B0.out)).mono ?_; rintro e w1 ⟨rfl, hd⟩; have B1 := Aside0.mk (below_step B0.out (drawn_below hd)); clear hd)
    | (go_at_call_of 13 (Value.slice AM M.length cM); refine (F2.out _ (Kd.C_below HM.out B1.out)).mono ?_; rintro e w2 ⟨rfl, hd⟩; have B2 := Aside0.mk (below_step B1.out (drawn_below hd)); clear hd))
  obtain ⟨w3, hw3⟩ : ∃ w3, w3 = w2.alloc (wordsO (.slice A l.length c) 0) := ⟨_, rfl⟩
  have B3 := Aside0.mk (below_alloc B2.out (wordsO (.slice A l.length c) 0))
  have O3 := Aside0.mk (blk_new w2 (wordsO (.slice A l.length c) 0))
  have G3 := Aside0.mk (show w.heap.size ≤ w2.heap.size from B2.out.size)
  change Code.wp _ _ _ _ (w2.alloc (wordsO (.slice A l.length c) 0))
  rw [← hw3] at B3 O3
  rw [← hw3]
  clear hw3 F1 F2 B1 B2 B0 e3 e4 e5
  generalize w2.heap.size = gw at *
  go_upto_region 6 with (go_at_call 9; refine (FN.out _).mono ?_; rintro e w4 ⟨v4, rfl, hR, hb⟩; obtain ⟨A4, c4, rfl⟩ := Kd.R_slice hR; have R4 := Aside0.mk hR; have B4 := Aside0.mk (below_step B3.out hb); have O4 := Aside0.mk (blk_below O3.out hb); clear hR hb)
  obtain ⟨w5, hw5⟩ : ∃ w5, w5 = w4.alloc (sampleO n 0 (.slice A4 0 c4)) := ⟨_, rfl⟩
  have B5 := Aside0.mk (below_alloc B4.out (sampleO n 0 (.slice A4 0 c4)))
  have O5 := Aside0.mk (blk_alloc O4.out (sampleO n 0 (.slice A4 0 c4)))
  have P5 := Aside0.mk (blk_new w4 (sampleO n 0 (.slice A4 0 c4)))
  have R5 := Aside0.mk (Kd.R_alloc R4.out (sampleO n 0 (.slice A4 0 c4)))
  have G5 := Aside0.mk (show gw < w4.heap.size from blk_lt O4.out)
  change Code.wp _ _ _ _ (w4.alloc (sampleO n 0 (.slice A4 0 c4)))
  rw [← hw5] at B5 O5 P5 R5
  rw [← hw5]
  clear hw5 B4 O4 B3 R4
  generalize w4.heap.size = ga at *
  go_upto_region 7 with (go_at_call 9; refine (FN.out _).mono ?_; rintro e w6 ⟨v6, rfl, hR, hb⟩; obtain ⟨A6, c6, rfl⟩ := Kd.R_slice hR; have R6 := Aside0.mk hR; have B6 := Aside0.mk (below_step B5.out hb); have O6 := Aside0.mk (blk_below O5.out hb); have P6 := Aside0.mk (blk_below P5.out hb); have Q6 := Aside0.mk (Kd.R_below R5.out hb); clear hR hb)
  obtain ⟨w7, hw7⟩ : ∃ w7, w7 = w6.alloc (sampleO n 0 (.slice A6 0 c6)) := ⟨_, rfl⟩
  have B7 := Aside0.mk (below_alloc B6.out (sampleO n 0 (.slice A6 0 c6)))
  have O7 := Aside0.mk (blk_alloc O6.out (sampleO n 0 (.slice A6 0 c6)))
  have P7 := Aside0.mk (blk_alloc P6.out (sampleO n 0 (.slice A6 0 c6)))
  have Q7 := Aside0.mk (blk_new w6 (sampleO n 0 (.slice A6 0 c6)))
  have R7 := Aside0.mk (Kd.R_alloc R6.out (sampleO n 0 (.slice A6 0 c6)))
  have S7 := Aside0.mk (Kd.R_alloc Q6.out (sampleO n 0 (.slice A6 0 c6)))
  have G7 := Aside0.mk (show ga < w6.heap.size from blk_lt P6.out)
  change Code.wp _ _ _ _ (w6.alloc (sampleO n 0 (.slice A6 0 c6)))
  rw [← hw7] at B7 O7 P7 Q7 R7 S7
  rw [← hw7]
  clear hw7 B6 O6 P6 Q6 R6 B5 O5 P5 R5
  generalize w6.heap.size = gb at *
  go_upto_region 8 with (fail)
  go_upto_region 9 with (first
    | ((with_reducible refine gate_dst (N := 69) rfl ?_); refine Kd.R_lit Kd.string w7.heap.size 9 ?hg (N := 69) ?hd (xs := ([] : List ByteArray)) (inner := []) (ok := fun k => w7.heap.size ≤ k) (okp := fun k => w7.heap.size ≤ k) ?hr ?hp (fun _ hk => hk) (Nat.le_refl _) (Below.refl _ w7) (Nat.le_refl _) (by simp) ?_; (case hd => rfl); (case hg => rfl); (case hr => first | (go_simp; done) | (go_simp; rfl)); (case hp => exact Reps.none _ _); intro v8 w8 ho8 hb8 hg_ hnew_; have HO8 := Aside0.mk ho8; have HB8 := Aside0.mk hb8; clear ho8 hb8 hg_ hnew_)
    | (refine Kd.R_append_row Value.string (⟨#[]⟩ : ByteArray) (w0 := w7) w7.heap.size (by rfl) (.tmp 69) (.tmp 70) 24 9 (.string ⟨#[]⟩) 16 rfl Try.underlying24 info9 rfl (by decide) v8 ([] : List ByteArray) L AL L.length cL (fun k => w7.heap.size ≤ k) rfl rfl ?aF HO8.out (Kd.C_below HL.out (below_step B7.out HB8.out)) HB8.out HB8.out.size (by simp; omega) ?_; (case aF => exact fun k hk => Nat.le_trans HB8.out.size hk); intro v9 w9 ho9 hb9 hg9 hat9; have HO9 := Aside0.mk ho9; have HB9 := Aside0.mk hb9; clear ho9 hb9 hg9 hat9)
    | (refine Kd.R_append_row Value.string (⟨#[]⟩ : ByteArray) (w0 := w7) w7.heap.size (by rfl) (.tmp 71) (.tmp 72) 24 9 (.string ⟨#[]⟩) 16 rfl Try.underlying24 info9 rfl (by decide) v9 ([] ++ L) M AM M.length cM (fun k => w7.heap.size ≤ k) rfl rfl ?aF HO9.out (Kd.C_below HM.out (below_step B7.out HB9.out)) HB9.out HB9.out.size (by simp; omega) ?_; (case aF => exact fun k hk => Nat.le_trans HB9.out.size hk); intro v10 w10 ho10 hb10 hg10 hat10; rw [List.nil_append] at ho10; obtain ⟨LM, hLM⟩ : ∃ LM, LM = L ++ M := ⟨_, rfl⟩; rw [← hLM] at ho10; have HLM := Lib.hid hLM; clear hLM; obtain ⟨Ad, cd, rfl⟩ := Kd.R_slice ho10; have HO10 := Aside0.mk ho10; have HB10 := Aside0.mk hb10; clear ho10 hb10 hg10 hat10))
  have hLM3 : LM.length ≤ 60 := by rw [HLM.out, List.length_append]; omega
  rw [← HLM.out] at hst hstep hdry hmerge
  have HME := Lib.hid hmerge
  clear hmerge
  clear HLM FN
  have HH : Hd w w10 ga gb gw (fun k => some k = (Value.slice Ad LM.length cd).ownBlock ∧ w7.heap.size ≤ k) n (St 0) (.slice none 0 0) (.slice Ad LM.length cd) [] LM l A4 c4 A6 c6 A c := by
    have l1 := blk_lt P7.out
    have l2 := blk_lt Q7.out
    have l3 := blk_lt O7.out
    have g1 := G3.out
    have g2 := G5.out
    have g3 := G7.out
    have g4 := blk_lt O3.out
    have hs10 := HB10.out.size
    rw [hS0]
    have v1 : Kd.V Kd.string 9 w10 0 (Fr ga gb gw (.slice none 0 0)) (.slice A4 ([] : List ByteArray).length c4) [] := by
      refine V_base 0 (Kd.R_V (base' := 0) (Kd.R_below (Kd.R_reok rfl S7.out ?_) HB10.out))
      intro k hk
      have q1 := Kd.R_base S7.out k hk
      refine ⟨fun e => Kd.R_ne S7.out P7.out (by decide) (by rw [hk, e]), fun e => Kd.R_ne S7.out Q7.out (by decide) (by rw [hk, e]), by omega, by simp [Value.ownBlock]⟩
    have v2 : Kd.V Kd.string 9 w10 0 (Fr ga gb gw (.slice none 0 0)) (.slice A6 ([] : List ByteArray).length c6) [] := by
      refine V_base 0 (Kd.R_V (base' := 0) (Kd.R_below (Kd.R_reok rfl R7.out ?_) HB10.out))
      intro k hk
      refine ⟨fun e => Kd.R_ne R7.out P7.out (by decide) (by rw [hk, e]), fun e => Kd.R_ne R7.out Q7.out (by decide) (by rw [hk, e]), fun e => Kd.R_ne R7.out O7.out (by decide) (by rw [hk, e]), by simp [Value.ownBlock]⟩
    refine ⟨blk_below P7.out HB10.out, blk_below Q7.out HB10.out, blk_below O7.out HB10.out, v1, v2, ?_, Kd.R_nil _ _ _ _ _, ?_, ?_, ?_, ?_, ?_, below_step B7.out HB10.out⟩
    · exact Kd.V_mono (Kd.V_below (Kd.V_mk (base := 0) (e := 23) hcl (Kd.C_F (Kd.heap_int .u64) HW.out)) (below_step B7.out HB10.out)) (fun k hk => ⟨by omega, by omega, by omega, by simp [Value.ownBlock]⟩)
    · exact Kd.R_mono (Kd.R_tight2 rfl (Kd.R_lower HO10.out B7.out.size)) (fun k hk => hk)
    · intro k hk
      refine ⟨⟨by omega, by omega, by omega, by simp [Value.ownBlock]⟩, Kd.R_lt HO10.out k hk.1.symm⟩
    · simp [Value.ownBlock]
    · exact ⟨by omega, by omega, by omega⟩
    · exact ⟨by omega, by omega, g1⟩
  have H0 := Aside0.mk HH
  clear HH
  have hG7 := Aside0.mk (show w.heap.size ≤ w7.heap.size from B7.out.size)
  generalize (fun k => some k = (Value.slice Ad LM.length cd).ownBlock ∧ w7.heap.size ≤ k) = G at *
  clear HO8 HB8 HO9 HB9 HO10 HB10 S7 R7 Q7 P7 O7 B7 G3 G5 G7 O3 hS0
  have hL30 : (L.length : Int) ≤ 30 := by omega
  go_loopw [15, 75] (fun v15 v75 wr => ∃ (j : Nat) (va : Value) (Aa : Option Addr) (ca : Nat) (Ab : Option Addr) (cb : Nat) (Aw : Option Addr) (cw : Nat), v15 = va ∧ v75 = .int .i64 (j : Int) ∧ j ≤ stop ∧ Aside0 (Hd w wr ga gb gw G n (St j) va (.slice Ad LM.length cd) (LM.take j) LM l Aa ca Ab cb Aw cw)) (fun _ v75 _ => LM.length - (intOf v75).toNat)
  case atStart => exact ⟨0, _, _, _, _, _, _, _, rfl, rfl, Nat.zero_le _, H0⟩
  case round =>
    obtain ⟨j, va, Aa, ca, Ab, cb, Aw, cw, rfl, rfl, hjs, H⟩ := hrel
    clear H0
    by_cases hlt : j < LM.length
    · have hlt2 : decide ((j : Int) < (LM.length : Int)) = true := decide_eq_true (by omega)
      obtain ⟨ad, cs, eA, hlen, hK, hcell⟩ := (Kd.R_reads' H.out.lm).2.2.get_ ByteArray.empty (j : Int) (by omega) (by omega)
      rw [Int.toNat_natCast] at hK hcell
      obtain ⟨x, hx⟩ : ∃ x, LM.getD j ByteArray.empty = x := ⟨_, rfl⟩
      rw [hx] at hK
      obtain rfl : cs = [.string x] := hK
      have hc0 := hcell 0 _ rfl
      rw [show j * Kd.string.sz + 0 = j from Nat.mul_one j] at hc0
      clear hcell hlen
      cases eA
      obtain ⟨b, hb⟩ : ∃ b, decide ((L.length : Int) ≤ (j : Int)) = b := ⟨_, rfl⟩
      obtain ⟨t, ht⟩ : ∃ t, St j = t := ⟨_, rfl⟩
      rw [ht] at H
      by_cases hs : j < stop
      · obtain ⟨hsz, N, X, p, hadd, hnext⟩ := hstep j hs
        rw [hx] at hsz hadd
        rw [ht, hb] at hadd hnext
        have hsz2 : decide ((64 : Int) < (x.size : Int)) = false := decide_eq_false (by omega)
        go_upto_region 13 with (fail)
        have a0 : wr.cell? ⟨ga, 0, none⟩ = some (.int .i64 n) := (blk_cell H.out.a 0).trans rfl
        have a1 : wr.cell? ⟨ga, 1, none⟩ = some (.int .u64 t.na) := (blk_cell H.out.a 1).trans rfl
        have a2 : wr.cell? ⟨ga, 2, none⟩ = some (.slice Aa t.la.length ca) := (blk_cell H.out.a 2).trans rfl
        have HADD := Lib.hid hadd
        have HNEXT := Lib.hid hnext
        have HXX := Lib.hid (take_next LM j hlt)
        rw [hx] at HXX
        clear hadd hnext
        go_upto_region 14 with (fail)
        obtain ⟨w1, hw1⟩ : ∃ w1, w1 = wr.alloc (sampleO n t.na (.slice Aa t.la.length ca)) := ⟨_, rfl⟩
        have H1 := Aside0.mk (H.out.below (below_alloc (Below.refl wr.heap.size wr) (sampleO n t.na (.slice Aa t.la.length ca))))
        have P1 := Aside0.mk (blk_new wr (sampleO n t.na (.slice Aa t.la.length ca)))
        have F1 := Aside0.mk (Nat.le_refl wr.heap.size)
        have B1 := Aside0.mk (below_alloc (Below.refl wr.heap.size wr) (sampleO n t.na (.slice Aa t.la.length ca)))
        change Code.wp _ _ _ _ (wr.alloc (sampleO n t.na (.slice Aa t.la.length ca)))
        rw [← hw1] at H1 P1 B1
        rw [← hw1]
        clear hw1 hc0 a0 a1 a2 hx ht
        obtain ⟨gs, hgs⟩ : ∃ gs, gs = wr.heap.size := ⟨_, rfl⟩
        rw [← hgs] at P1
        rw [← hgs]
        replace F1 := Aside0.mk (show wr.heap.size ≤ gs from Nat.le_of_eq hgs.symm)
        clear hgs
        have b0 : w1.cell? ⟨gb, 0, none⟩ = some (.int .i64 n) := (blk_cell H1.out.b 0).trans rfl
        have b1 : w1.cell? ⟨gb, 1, none⟩ = some (.int .u64 t.nb) := (blk_cell H1.out.b 1).trans rfl
        have b2 : w1.cell? ⟨gb, 2, none⟩ = some (.slice Ab t.lb.length cb) := (blk_cell H1.out.b 2).trans rfl
        have s0 : w1.cell? ⟨gs, 0, none⟩ = some (.int .i64 n) := (blk_cell P1.out 0).trans rfl
        have s1 : w1.cell? ⟨gs, 1, none⟩ = some (.int .u64 t.na) := (blk_cell P1.out 1).trans rfl
        have s2 : w1.cell? ⟨gs, 2, none⟩ = some (.slice Aa t.la.length ca) := (blk_cell P1.out 2).trans rfl
        have f0 := blk_frozen P1.out 0
        have f1 := blk_frozen P1.out 1
        have f2 := blk_frozen P1.out 2
        go_upto_if 88 with (fail)
        go_cut [18] (fun v18 wc => v18 = .pointer (some ⟨gs, 0, none⟩) ∧ ∃ (As : Option Addr) (cs : Nat), Aside0 (Hd w wc ga gb gw G n t u15 (Value.slice (some ad) LM.length cd) (LM.take j) LM l Aa ca Ab cb Aw cw ∧ wc.heap[gs]? = some (sampleO n (t.sel b).1 (.slice As (t.sel b).2.length cs)) ∧ Kd.V Kd.string 9 wc 0 (Fr ga gb gw u15) (.slice As (t.sel b).2.length cs) (t.sel b).2))
        case first =>
          cases b
          · have hb2 := of_decide_eq_false hb
            go_wp2
            all_goals first
              | (exfalso; omega)
              | (go_meet; case rel => exact ⟨rfl, Aa, ca, ⟨H1.out, P1.out, H1.out.ra⟩⟩)
          · have hb2 := of_decide_eq_true hb
            go_wp2
            all_goals first
              | (exfalso; omega)
              | (go_meet; case rel => 
                  have hq := H.out.below (below_set (below_set (below_set B1.out (g := gs) (j := 0) (v := .int .i64 n) F1.out) (g := gs) (j := 1) (v := .int .u64 t.nb) F1.out) (g := gs) (j := 2) (v := .slice Ab t.lb.length cb) F1.out)
                  exact ⟨rfl, Ab, cb, ⟨hq, put26 P1.out _ _ _, hq.rb⟩⟩)
        case rest =>
          obtain ⟨rfl, As, cs, T⟩ := hcut
          clear b0 b1 b2 s0 s1 s2 f0 f1 f2 H H1 P1 F1 B1
          have s0 : wc.cell? ⟨gs, 0, none⟩ = some (.int .i64 n) := (blk_cell T.out.2.1 0).trans rfl
          have s1 : wc.cell? ⟨gs, 1, none⟩ = some (.int .u64 (t.sel b).1) := (blk_cell T.out.2.1 1).trans rfl
          have s2 : wc.cell? ⟨gs, 2, none⟩ = some (.slice As (t.sel b).2.length cs) := (blk_cell T.out.2.1 2).trans rfl
          have o0 : wc.cell? ⟨gw, 0, none⟩ = some (.slice Aw l.length cw) := (blk_cell T.out.1.o 0).trans rfl
          have o1 : wc.cell? ⟨gw, 1, none⟩ = some (.int .i64 t.p) := (blk_cell T.out.1.o 1).trans rfl
          go_upto_region 17 with (go_at_call 10; refine (reserve_Add.calls kf n (t.sel b).1 (Fr ga gb gw u15) As cs (t.sel b).2 x (Fr ga gb gw u15) Aw cw l t.p n N X l p 0 wc (V_base _ T.out.2.2) (V_base _ T.out.1.rw) HADD.out).mono ?_; rintro e w2 ⟨v2, v3, rfl, hV2, hV3, hb2⟩; obtain ⟨A2, c2, rfl⟩ := Kd.V_slice hV2; obtain ⟨A3, c3, rfl⟩ := Kd.V_slice hV3; have V2 := Aside0.mk hV2; have V3 := Aside0.mk hV3; have B2 := Aside0.mk hb2; clear hV2 hV3 hb2)
          obtain ⟨w3, hw3⟩ : ∃ w3, w3 = (w2.alloc (sampleO n N (.slice A2 X.length c2))).alloc (wordsO (.slice A3 l.length c3) p) := ⟨_, rfl⟩
          have H3 := Aside0.mk (T.out.1.below (below_alloc (below_alloc B2.out (sampleO n N (.slice A2 X.length c2))) (wordsO (.slice A3 l.length c3) p)))
          have X3 := Aside0.mk (show Kd.V Kd.string 9 ((w2.alloc (sampleO n N (.slice A2 X.length c2))).alloc (wordsO (.slice A3 l.length c3) p)) 0 (Fr ga gb gw u15) (.slice A2 X.length c2) X from
            Kd.V_alloc (Kd.V_alloc (V_base 0 (Kd.V_mono V2.out (fun k hk => hk.elim (fun h => h.elim id id) (fun h => T.out.1.fresh h)))) _) _)
          have W3 := Aside0.mk (show Kd.V (Kd.int .u64) 23 ((w2.alloc (sampleO n N (.slice A2 X.length c2))).alloc (wordsO (.slice A3 l.length c3) p)) 0 (Fr ga gb gw u15) (.slice A3 l.length c3) l from
            Kd.V_alloc (Kd.V_alloc (V_base 0 (Kd.V_mono V3.out (fun k hk => hk.elim (fun h => h.elim id id) (fun h => T.out.1.fresh h)))) _) _)
          have M3 := Aside0.mk (show ((w2.alloc (sampleO n N (.slice A2 X.length c2))).alloc (wordsO (.slice A3 l.length c3) p)).heap[w2.heap.size]? = some (sampleO n N (.slice A2 X.length c2)) ∧ ((w2.alloc (sampleO n N (.slice A2 X.length c2))).alloc (wordsO (.slice A3 l.length c3) p)).heap[w2.heap.size + 1]? = some (wordsO (.slice A3 l.length c3) p) from ⟨blk_alloc (blk_new _ _) _, new_at _ _ _⟩)
          have G3 := Aside0.mk (show Fr ga gb gw u15 w2.heap.size ∧ Fr ga gb gw u15 (w2.heap.size + 1) from ⟨T.out.1.fresh B2.out.size, T.out.1.fresh (Nat.le_trans B2.out.size (Nat.le_succ _))⟩)
          change Code.wp _ _ _ _ ((w2.alloc (sampleO n N (.slice A2 X.length c2))).alloc (wordsO (.slice A3 l.length c3) p))
          rw [← hw3] at H3 X3 W3 M3
          rw [← hw3]
          clear hw3 T V2 V3 B2 s0 s1 s2 o0 o1 HADD
          generalize w2.heap.size = gt at *
          have m0 : w3.cell? ⟨gt, 0, none⟩ = some (.int .i64 n) := (blk_cell M3.out.1 0).trans rfl
          have m1 : w3.cell? ⟨gt, 1, none⟩ = some (.int .u64 N) := (blk_cell M3.out.1 1).trans rfl
          have m2 : w3.cell? ⟨gt, 2, none⟩ = some (.slice A2 X.length c2) := (blk_cell M3.out.1 2).trans rfl
          have a0 : w3.cell? ⟨ga, 0, none⟩ = some (.int .i64 n) := (blk_cell H3.out.a 0).trans rfl
          have a1 : w3.cell? ⟨ga, 1, none⟩ = some (.int .u64 t.na) := (blk_cell H3.out.a 1).trans rfl
          have a2 : w3.cell? ⟨ga, 2, none⟩ = some (.slice Aa t.la.length ca) := (blk_cell H3.out.a 2).trans rfl
          have b0 : w3.cell? ⟨gb, 0, none⟩ = some (.int .i64 n) := (blk_cell H3.out.b 0).trans rfl
          have b1 : w3.cell? ⟨gb, 1, none⟩ = some (.int .u64 t.nb) := (blk_cell H3.out.b 1).trans rfl
          have b2 : w3.cell? ⟨gb, 2, none⟩ = some (.slice Ab t.lb.length cb) := (blk_cell H3.out.b 2).trans rfl
          have fa0 := blk_frozen H3.out.a 0
          have fa1 := blk_frozen H3.out.a 1
          have fa2 := blk_frozen H3.out.a 2
          have fb0 := blk_frozen H3.out.b 0
          have fb1 := blk_frozen H3.out.b 1
          have fb2 := blk_frozen H3.out.b 2
          have n1 := G3.out.1.1
          have n2 := G3.out.1.2.1
          go_upto_if 122 with (fail)
          go_cut [] (fun wd => ∃ (A5 : Option Addr) (c5 : Nat) (A6 : Option Addr) (c6 : Nat), Aside0 (Hd w wd ga gb gw G n (t.upd b N X t.p) u15 (Value.slice (some ad) LM.length cd) (LM.take j) LM l A5 c5 A6 c6 Aw cw ∧ wd.heap[gt + 1]? = some (wordsO (.slice A3 l.length c3) p) ∧ Kd.V (Kd.int .u64) 23 wd 0 (Fr ga gb gw u15) (.slice A3 l.length c3) l))
          case first =>
            cases b
            · have hb2 := of_decide_eq_false hb
              go_wp2
              all_goals first
                | (exfalso; omega)
                | (go_meet; case rel => exact ⟨A2, c2, Ab, cb, ⟨H3.out.seta X3.out, blk_far (blk_far (blk_far M3.out.2 G3.out.2.1 _) G3.out.2.1 _) G3.out.2.1 _, Kd.V_far (Kd.V_far (Kd.V_far W3.out (fun k hk => hk.1) _) (fun k hk => hk.1) _) (fun k hk => hk.1) _⟩⟩)
            · have hb2 := of_decide_eq_true hb
              go_wp2
              all_goals first
                | (exfalso; omega)
                | (go_meet; case rel => exact ⟨Aa, ca, A2, c2, ⟨H3.out.setb X3.out, blk_far (blk_far (blk_far M3.out.2 G3.out.2.2.1 _) G3.out.2.2.1 _) G3.out.2.2.1 _, Kd.V_far (Kd.V_far (Kd.V_far W3.out (fun k hk => hk.2.1) _) (fun k hk => hk.2.1) _) (fun k hk => hk.2.1) _⟩⟩)
          case rest =>
            obtain ⟨A5, c5, A6, c6, T⟩ := hcut
            clear H3 X3 W3 M3 m0 m1 m2 a0 a1 a2 b0 b1 b2 fa0 fa1 fa2 fb0 fb1 fb2 n1 n2
            have m0 : wc.cell? ⟨gt + 1, 0, none⟩ = some (.slice A3 l.length c3) := (blk_cell T.out.2.1 0).trans rfl
            have m1 : wc.cell? ⟨gt + 1, 1, none⟩ = some (.int .i64 p) := (blk_cell T.out.2.1 1).trans rfl
            have o0 : wc.cell? ⟨gw, 0, none⟩ = some (.slice Aw l.length cw) := (blk_cell T.out.1.o 0).trans rfl
            have o1 : wc.cell? ⟨gw, 1, none⟩ = some (.int .i64 (t.upd b N X t.p).p) := (blk_cell T.out.1.o 1).trans rfl
            have fo0 := blk_frozen T.out.1.o 0
            have fo1 := blk_frozen T.out.1.o 1
            have n1 := G3.out.2.2.2.1
            go_upto_region 23 with (fail)
            obtain ⟨w5, hw5⟩ : ∃ w5, w5 = (wc.setCell ⟨gw, 0, none⟩ (.slice A3 l.length c3)).setCell ⟨gw, 1, none⟩ (.int .i64 p) := ⟨_, rfl⟩
            have H5 := Aside0.mk (T.out.1.setw (p := p) T.out.2.2)
            rw [upd_p] at H5
            change Code.wp _ _ _ _ ((wc.setCell ⟨gw, 0, none⟩ (.slice A3 l.length c3)).setCell ⟨gw, 1, none⟩ (.int .i64 p))
            rw [← hw5] at H5
            rw [← hw5]
            clear hw5 T m0 m1 o0 o1 fo0 fo1 n1 G3
            go_wp2_with (refine Kd.R_append Kd.string (w0 := w) w.heap.size (by rfl) (.tmp 126) (.tmp 128) 24 9 (.string ⟨#[]⟩) 16 rfl Try.underlying24 info9 rfl (by decide) (by decide) u15 (LM.take j) x [.string x] (fun k_ => w.heap.size ≤ k_) (fun _ => False) (by rfl) (by rfl) ?aP (fun _ hk => hk.elim) ?aF ?aO ?aB ?aS ?aL ?_; (case aP => exact rfl); (case aF => exact fun k hk => Nat.le_trans H5.out.bel.size hk); (case aO => exact H5.out.all); (case aB => exact H5.out.bel); (case aS => exact H5.out.bel.size); (case aL => (rw [List.length_take]; omega)); intro v6 w6 hR hB hg hat; have H6 := Aside0.mk (H5.out.grown hR hB hg hat); rw [HXX.out, ← HNEXT.out] at H6; clear hR hB hg hat)
            exact ⟨⟨j + 1, _, _, _, _, _, _, _, rfl, by go_num, by omega, H6⟩, by simp [intOf]; omega⟩
      · obtain rfl : j = stop := by omega
        have hdry2 := hdry hlt
        rw [hx, ht, hb] at hdry2
        rcases hdry2 with hbig | ⟨hsz, hstr, hadd⟩
        · have hsz2 : decide ((64 : Int) < (x.size : Int)) = true := decide_eq_true (by omega)
          go_wp2_with (go_at_call 11; refine (FA.out _).mono ?_; rintro e w6 ⟨rfl, hb6⟩; have B6 := Aside0.mk (below_step H.out.bel hb6); clear hb6)
          go_ret
          exact ⟨rfl, B6.out⟩
        · have hsz2 : decide ((64 : Int) < (x.size : Int)) = false := decide_eq_false (by omega)
          have HADD := Lib.hid hadd
          have HSTR := Lib.hid hstr
          clear hadd hstr
          have a0 : wr.cell? ⟨ga, 0, none⟩ = some (.int .i64 n) := (blk_cell H.out.a 0).trans rfl
          have a1 : wr.cell? ⟨ga, 1, none⟩ = some (.int .u64 t.na) := (blk_cell H.out.a 1).trans rfl
          have a2 : wr.cell? ⟨ga, 2, none⟩ = some (.slice Aa t.la.length ca) := (blk_cell H.out.a 2).trans rfl
          go_upto_region 14 with (fail)
          obtain ⟨w1, hw1⟩ : ∃ w1, w1 = wr.alloc (sampleO n t.na (.slice Aa t.la.length ca)) := ⟨_, rfl⟩
          have H1 := Aside0.mk (H.out.below (below_alloc (Below.refl wr.heap.size wr) (sampleO n t.na (.slice Aa t.la.length ca))))
          have P1 := Aside0.mk (blk_new wr (sampleO n t.na (.slice Aa t.la.length ca)))
          have F1 := Aside0.mk (Nat.le_refl wr.heap.size)
          have B1 := Aside0.mk (below_alloc (Below.refl wr.heap.size wr) (sampleO n t.na (.slice Aa t.la.length ca)))
          change Code.wp _ _ _ _ (wr.alloc (sampleO n t.na (.slice Aa t.la.length ca)))
          rw [← hw1] at H1 P1 B1
          rw [← hw1]
          clear hw1 hc0 a0 a1 a2 hx ht
          obtain ⟨gs, hgs⟩ : ∃ gs, gs = wr.heap.size := ⟨_, rfl⟩
          rw [← hgs] at P1
          rw [← hgs]
          replace F1 := Aside0.mk (show wr.heap.size ≤ gs from Nat.le_of_eq hgs.symm)
          clear hgs
          have b0 : w1.cell? ⟨gb, 0, none⟩ = some (.int .i64 n) := (blk_cell H1.out.b 0).trans rfl
          have b1 : w1.cell? ⟨gb, 1, none⟩ = some (.int .u64 t.nb) := (blk_cell H1.out.b 1).trans rfl
          have b2 : w1.cell? ⟨gb, 2, none⟩ = some (.slice Ab t.lb.length cb) := (blk_cell H1.out.b 2).trans rfl
          have s0 : w1.cell? ⟨gs, 0, none⟩ = some (.int .i64 n) := (blk_cell P1.out 0).trans rfl
          have s1 : w1.cell? ⟨gs, 1, none⟩ = some (.int .u64 t.na) := (blk_cell P1.out 1).trans rfl
          have s2 : w1.cell? ⟨gs, 2, none⟩ = some (.slice Aa t.la.length ca) := (blk_cell P1.out 2).trans rfl
          have f0 := blk_frozen P1.out 0
          have f1 := blk_frozen P1.out 1
          have f2 := blk_frozen P1.out 2
          go_upto_if 88 with (fail)
          go_cut [18] (fun v18 wc => v18 = .pointer (some ⟨gs, 0, none⟩) ∧ ∃ (As : Option Addr) (cs : Nat), Aside0 (Hd w wc ga gb gw G n t u15 (Value.slice (some ad) LM.length cd) (LM.take j) LM l Aa ca Ab cb Aw cw ∧ wc.heap[gs]? = some (sampleO n (t.sel b).1 (.slice As (t.sel b).2.length cs)) ∧ Kd.V Kd.string 9 wc 0 (Fr ga gb gw u15) (.slice As (t.sel b).2.length cs) (t.sel b).2))
          case first =>
            cases b
            · have hb2 := of_decide_eq_false hb
              go_wp2
              all_goals first
                | (exfalso; omega)
                | (go_meet; case rel => exact ⟨rfl, Aa, ca, ⟨H1.out, P1.out, H1.out.ra⟩⟩)
            · have hb2 := of_decide_eq_true hb
              go_wp2
              all_goals first
                | (exfalso; omega)
                | (go_meet; case rel => 
                    have hq := H.out.below (below_set (below_set (below_set B1.out (g := gs) (j := 0) (v := .int .i64 n) F1.out) (g := gs) (j := 1) (v := .int .u64 t.nb) F1.out) (g := gs) (j := 2) (v := .slice Ab t.lb.length cb) F1.out)
                    exact ⟨rfl, Ab, cb, ⟨hq, put26 P1.out _ _ _, hq.rb⟩⟩)
          case rest =>
            obtain ⟨rfl, As, cs, T⟩ := hcut
            clear b0 b1 b2 s0 s1 s2 f0 f1 f2 H H1 P1 F1 B1
            have s0 : wc.cell? ⟨gs, 0, none⟩ = some (.int .i64 n) := (blk_cell T.out.2.1 0).trans rfl
            have s1 : wc.cell? ⟨gs, 1, none⟩ = some (.int .u64 (t.sel b).1) := (blk_cell T.out.2.1 1).trans rfl
            have s2 : wc.cell? ⟨gs, 2, none⟩ = some (.slice As (t.sel b).2.length cs) := (blk_cell T.out.2.1 2).trans rfl
            have o0 : wc.cell? ⟨gw, 0, none⟩ = some (.slice Aw l.length cw) := (blk_cell T.out.1.o 0).trans rfl
            have o1 : wc.cell? ⟨gw, 1, none⟩ = some (.int .i64 t.p) := (blk_cell T.out.1.o 1).trans rfl
            go_upto_region 17 with (go_at_call 10; refine (reserve_Add.calls kf n (t.sel b).1 (Fr ga gb gw u15) As cs (t.sel b).2 x (Fr ga gb gw u15) Aw cw l t.p n (t.sel b).1 (t.sel b).2 l t.p 8 wc (V_base _ T.out.2.2) (V_base _ T.out.1.rw) HADD.out).mono ?_; rintro e w2 ⟨v2, v3, rfl, hV2, hV3, hb2⟩; obtain ⟨A2, c2, rfl⟩ := Kd.V_slice hV2; obtain ⟨A3, c3, rfl⟩ := Kd.V_slice hV3; have V2 := Aside0.mk hV2; have V3 := Aside0.mk hV3; have B2 := Aside0.mk hb2; clear hV2 hV3 hb2)
            obtain ⟨N, hN⟩ : ∃ N, N = (t.sel b).1 := ⟨_, rfl⟩
            obtain ⟨X, hX⟩ : ∃ X, X = (t.sel b).2 := ⟨_, rfl⟩
            rw [← hN, ← hX] at T
            rw [← hX] at V2 HSTR
            rw [← hN, ← hX]
            obtain ⟨w3, hw3⟩ : ∃ w3, w3 = (w2.alloc (sampleO n N (.slice A2 X.length c2))).alloc (wordsO (.slice A3 l.length c3) t.p) := ⟨_, rfl⟩
            have B3 := Aside0.mk (below_alloc (below_alloc B2.out (sampleO n N (.slice A2 X.length c2))) (wordsO (.slice A3 l.length c3) t.p))
            have M3 := Aside0.mk (show ((w2.alloc (sampleO n N (.slice A2 X.length c2))).alloc (wordsO (.slice A3 l.length c3) t.p)).heap[w2.heap.size]? = some (sampleO n N (.slice A2 X.length c2)) ∧ ((w2.alloc (sampleO n N (.slice A2 X.length c2))).alloc (wordsO (.slice A3 l.length c3) t.p)).heap[w2.heap.size + 1]? = some (wordsO (.slice A3 l.length c3) t.p) from ⟨blk_alloc (blk_new _ _) _, new_at _ _ _⟩)
            have X3 := Aside0.mk (Kd.V_alloc (Kd.V_alloc V2.out (sampleO n N (.slice A2 X.length c2))) (wordsO (.slice A3 l.length c3) t.p))
            change Code.wp _ _ _ _ ((w2.alloc (sampleO n N (.slice A2 X.length c2))).alloc (wordsO (.slice A3 l.length c3) t.p))
            rw [← hw3] at B3 M3 X3
            rw [← hw3]
            clear hw3 V2 V3 B2 s0 s1 s2 o0 o1 HADD hN hX
            have HT := Aside0.mk (And.intro (T.out.1.below B3.out) (And.intro (blk_below T.out.2.1 B3.out) (Kd.V_below T.out.2.2 B3.out)))
            clear T B3
            generalize w2.heap.size = gt at *
            go_upto_region 18 with (fail)
            have B0 := Aside0.mk (Below.refl w3.heap.size w3)
            have hm := held18 HT.out.2.1 M3.out.1 M3.out.2 HT.out.1.o B0.out
            go_region_held3 (fun w' => w'.cell? ⟨gs, 0, none⟩ = some (.int .i64 n) ∧ w'.cell? ⟨gs, 1, none⟩ = some (.int .u64 N) ∧ w'.cell? ⟨gs, 2, none⟩ = some (.slice As X.length cs) ∧ w'.cell? ⟨gt, 0, none⟩ = some (.int .i64 n) ∧ w'.cell? ⟨gt, 1, none⟩ = some (.int .u64 N) ∧ w'.cell? ⟨gt, 2, none⟩ = some (.slice A2 X.length c2) ∧ w'.cell? ⟨gt + 1, 1, none⟩ = some (.int .i64 t.p) ∧ w'.cell? ⟨gw, 1, none⟩ = some (.int .i64 t.p) ∧ Below w3.heap.size w3 w')
              ((refine held18 HT.out.2.1 M3.out.1 M3.out.2 HT.out.1.o ?_; repeat (with_reducible first | assumption | exact B0.out | exact C1.out | exact C2.out | exact C3.out | exact C4.out | apply below_drew1)))
              (first
              | (go_at_call_of 15 (Value.agg #[.int .i64 n, .int .u64 N, .slice A2 X.length c2]); refine (ref_calls n N A2 X.length c2 _).mono ?_; rintro e w6 ⟨rfl, hd⟩; have C1 := Aside0.mk (below_step (by repeat (with_reducible first | assumption | exact B0.out | exact C2.out | apply below_drew1) : Below w3.heap.size w3 _) hd); clear hd)
              | (go_at_call_of 15 (Value.agg #[.int .i64 n, .int .u64 N, .slice As X.length cs]); refine (ref_calls n N As X.length cs _).mono ?_; rintro e w7 ⟨rfl, hd⟩; have C2 := Aside0.mk (below_step (by repeat (with_reducible first | assumption | exact B0.out | exact C1.out | apply below_drew1) : Below w3.heap.size w3 _) hd); clear hd)
              | (go_at_call 16; (refine (same_calls kf n N A2 c2 X As cs _ ?h1 ?h2 ?h3 ?h4 HSTR.out).mono ?_); (case h1 => exact Kd.C_below (Kd.V_reads' X3.out).2.2 (by repeat (with_reducible first | assumption | exact C1.out | exact C2.out | apply below_drew1))); (case h2 => exact (Kd.V_reads' X3.out).2.1); (case h3 => exact Kd.C_below (Kd.V_reads' HT.out.2.2).2.2 (by repeat (with_reducible first | assumption | exact C1.out | exact C2.out | apply below_drew1))); (case h4 => exact (Kd.V_reads' HT.out.2.2).2.1); rintro e w8 ⟨rfl, hd⟩; have C3 := Aside0.mk (below_step (by repeat (with_reducible first | assumption | exact C1.out | exact C2.out | apply below_drew1) : Below w3.heap.size w3 _) hd); clear hd)
              | (go_at_call 11; refine (FA.out _).mono ?_; rintro e w9 ⟨rfl, hd⟩; have C4 := Aside0.mk (below_step (by repeat (with_reducible first | assumption | exact C3.out | apply below_drew1) : Below w3.heap.size w3 _) hd); clear hd))
            all_goals
              go_wp2
              go_ret
              exact ⟨rfl, below_step HT.out.1.bel C4.out⟩
    · have hlt2 : decide ((j : Int) < (LM.length : Int)) = false := decide_eq_false (by omega)
      obtain rfl : j = stop := by omega
      have hjl : j = LM.length := by omega
      obtain ⟨r1, r2, r3, r4, r5, r6, hM, hR⟩ := HME.out hjl
      rw [hjl, List.take_length] at H
      rw [hjl] at hM hR
      generalize St LM.length = t at *
      have HM6 := Lib.hid hM
      have HR := Lib.hid hR
      clear hM hR HME hstep hdry
      have a0 : wr.cell? ⟨ga, 0, none⟩ = some (.int .i64 n) := (blk_cell H.out.a 0).trans rfl
      have a1 : wr.cell? ⟨ga, 1, none⟩ = some (.int .u64 t.na) := (blk_cell H.out.a 1).trans rfl
      have a2 : wr.cell? ⟨ga, 2, none⟩ = some (.slice Aa t.la.length ca) := (blk_cell H.out.a 2).trans rfl
      have b0 : wr.cell? ⟨gb, 0, none⟩ = some (.int .i64 n) := (blk_cell H.out.b 0).trans rfl
      have b1 : wr.cell? ⟨gb, 1, none⟩ = some (.int .u64 t.nb) := (blk_cell H.out.b 1).trans rfl
      have b2 : wr.cell? ⟨gb, 2, none⟩ = some (.slice Ab t.lb.length cb) := (blk_cell H.out.b 2).trans rfl
      have o0 : wr.cell? ⟨gw, 0, none⟩ = some (.slice Aw l.length cw) := (blk_cell H.out.o 0).trans rfl
      have o1 : wr.cell? ⟨gw, 1, none⟩ = some (.int .i64 t.p) := (blk_cell H.out.o 1).trans rfl
      go_upto_region 26 with (go_at_call 19; refine (reserve_Merge.calls n t.na Aa ca t.la n t.nb Ab cb t.lb (Fr ga gb gw u15) Aw cw l t.p r1 r2 r3 r4 r5 r6 wr (Kd.V_reads' H.out.ra).2.2 (Kd.V_reads' H.out.ra).2.1 (Kd.V_reads' H.out.rb).2.2 (Kd.V_reads' H.out.rb).2.1 (V_base _ H.out.rw) HM6.out).mono ?_; rintro e w2 ⟨v2, v3, rfl, hR2, hV3, hb2⟩; obtain ⟨A2, c2, rfl⟩ := Kd.R_slice hR2; obtain ⟨A3, c3, rfl⟩ := Kd.V_slice hV3; have R2 := Aside0.mk hR2; have B2 := Aside0.mk hb2; clear hR2 hV3 hb2)
      have B3 := Aside0.mk (below_alloc (below_alloc B2.out (sampleO r1 r2 (.slice A2 r3.length c2))) (wordsO (.slice A3 r4.length c3) r5))
      have M3 := Aside0.mk (show ((w2.alloc (sampleO r1 r2 (.slice A2 r3.length c2))).alloc (wordsO (.slice A3 r4.length c3) r5)).heap[w2.heap.size]? = some (sampleO r1 r2 (.slice A2 r3.length c2)) ∧ ((w2.alloc (sampleO r1 r2 (.slice A2 r3.length c2))).alloc (wordsO (.slice A3 r4.length c3) r5)).heap[w2.heap.size + 1]? = some (wordsO (.slice A3 r4.length c3) r5) from ⟨blk_alloc (blk_new _ _) _, new_at _ _ _⟩)
      have R3 := Aside0.mk (Kd.R_reads' (Kd.R_alloc (Kd.R_alloc R2.out (sampleO r1 r2 (.slice A2 r3.length c2))) (wordsO (.slice A3 r4.length c3) r5)))
      obtain ⟨w3, hw3⟩ : ∃ w3, w3 = (w2.alloc (sampleO r1 r2 (.slice A2 r3.length c2))).alloc (wordsO (.slice A3 r4.length c3) r5) := ⟨_, rfl⟩
      change Code.wp _ _ _ _ ((w2.alloc (sampleO r1 r2 (.slice A2 r3.length c2))).alloc (wordsO (.slice A3 r4.length c3) r5))
      rw [← hw3] at B3 M3 R3
      rw [← hw3]
      clear hw3 R2 B2 a0 a1 a2 b0 b1 b2 o0 o1 HM6
      have H3 := Aside0.mk (H.out.below B3.out)
      clear H B3
      generalize w2.heap.size = gc at *
      have a0 : w3.cell? ⟨ga, 0, none⟩ = some (.int .i64 n) := (blk_cell H3.out.a 0).trans rfl
      have a1 : w3.cell? ⟨ga, 1, none⟩ = some (.int .u64 t.na) := (blk_cell H3.out.a 1).trans rfl
      have a2 : w3.cell? ⟨ga, 2, none⟩ = some (.slice Aa t.la.length ca) := (blk_cell H3.out.a 2).trans rfl
      have b0 : w3.cell? ⟨gb, 0, none⟩ = some (.int .i64 n) := (blk_cell H3.out.b 0).trans rfl
      have b1 : w3.cell? ⟨gb, 1, none⟩ = some (.int .u64 t.nb) := (blk_cell H3.out.b 1).trans rfl
      have b2 : w3.cell? ⟨gb, 2, none⟩ = some (.slice Ab t.lb.length cb) := (blk_cell H3.out.b 2).trans rfl
      have o1 : w3.cell? ⟨gw, 1, none⟩ = some (.int .i64 t.p) := (blk_cell H3.out.o 1).trans rfl
      have m0 : w3.cell? ⟨gc, 0, none⟩ = some (.int .i64 r1) := (blk_cell M3.out.1 0).trans rfl
      have m1 : w3.cell? ⟨gc, 1, none⟩ = some (.int .u64 r2) := (blk_cell M3.out.1 1).trans rfl
      have m2 : w3.cell? ⟨gc, 2, none⟩ = some (.slice A2 r3.length c2) := (blk_cell M3.out.1 2).trans rfl
      have q1 : w3.cell? ⟨gc + 1, 1, none⟩ = some (.int .i64 r5) := (blk_cell M3.out.2 1).trans rfl
      rcases HR.out with ⟨e6, e5, e3⟩ | ⟨e6, e2, ga1, gb1, gc1⟩
      · have z1 : (r6 != 0) = true := by rw [e6]; decide
        have z2 : (r6 == 8) = true := by rw [e6]; decide
        have z3 : (r5 == t.p) = true := by rw [e5]; exact beq_self_eq_true _
        have z4 : ((r3.length : Int) == 0) = true := by rw [e3]; decide
        clear e6 e5 e3 HR
        go_wp2_with (go_at_call 11; refine (FA.out _).mono ?_; rintro e w6 ⟨rfl, hb⟩; have B6 := Aside0.mk (below_step H3.out.bel hb); clear hb)
        go_ret
        exact ⟨rfl, B6.out⟩
      · have z1 : (r6 != 0) = false := by rw [e6]; decide
        have E2 := Lib.hid e2
        have GA := Lib.hid ga1
        have GB := Lib.hid gb1
        have GC := Lib.hid gc1
        clear e6 e2 ga1 gb1 gc1 HR
        go_upto_region 29 with (fail)
        obtain ⟨Al, cl, rfl⟩ := Kd.R_slice H3.out.all
        obtain ⟨w5, hw5⟩ : ∃ w5, w5 = w3.alloc (.cells #[.int .i64 n, .int .u64 t.na, .slice Aa t.la.length ca, .int .i64 n, .int .u64 t.nb, .slice Ab t.lb.length cb, .int .i64 r1, .int .u64 r2, .slice A2 r3.length c2] 26 (0, 0)) := ⟨_, rfl⟩
        have B5 := Aside0.mk (below_alloc (Below.refl w3.heap.size w3) (.cells #[.int .i64 n, .int .u64 t.na, .slice Aa t.la.length ca, .int .i64 n, .int .u64 t.nb, .slice Ab t.lb.length cb, .int .i64 r1, .int .u64 r2, .slice A2 r3.length c2] 26 (0, 0)))
        have D5 := Aside0.mk (blk_new w3 (.cells #[.int .i64 n, .int .u64 t.na, .slice Aa t.la.length ca, .int .i64 n, .int .u64 t.nb, .slice Ab t.lb.length cb, .int .i64 r1, .int .u64 r2, .slice A2 r3.length c2] 26 (0, 0)))
        change Code.wp _ _ _ _ (w3.alloc (.cells #[.int .i64 n, .int .u64 t.na, .slice Aa t.la.length ca, .int .i64 n, .int .u64 t.nb, .slice Ab t.lb.length cb, .int .i64 r1, .int .u64 r2, .slice A2 r3.length c2] 26 (0, 0)))
        rw [← hw5] at B5 D5
        rw [← hw5]
        have H5 := Aside0.mk (H3.out.below B5.out)
        have R5 := Aside0.mk (Kd.C_below R3.out.2.2 B5.out)
        have RC := Aside0.mk R3.out.2.1
        have M5 := Aside0.mk (blk_below M3.out.1 B5.out)
        clear hw5 a0 a1 a2 b0 b1 b2 o1 m0 m1 m2 q1 H3 M3 R3 B5
        generalize w3.heap.size = gd at *
        go_loopw [164] (fun v164 wr => ∃ j : Nat, j ≤ 3 ∧ v164 = .int .i64 (j : Int) ∧ Aside0 (Below w5.heap.size w5 wr)) (fun v164 _ => 3 - (intOf v164).toNat)
        case atStart => exact ⟨0, by omega, rfl, ⟨Below.refl _ _⟩⟩
        case round =>
          obtain ⟨j, hj, rfl, BR⟩ := hrel
          by_cases hj3 : j = 3
          · subst hj3
            have hlt3 : decide ((3 : Int) < 3) = false := by decide
            have m1 : wr.cell? ⟨gc, 1, none⟩ = some (.int .u64 (IntKind.u64.wrap (LM.length : Int))) := by
              rw [← E2.out]
              exact (blk_cell (blk_below M5.out BR.out) 1).trans rfl
            have BX := Aside0.mk (below_step H5.out.bel BR.out)
            clear E2
            go_wp2_with (go_at_call 11; refine (FA.out _).mono ?_; rintro e w6 ⟨rfl, hb⟩; have B6 := Aside0.mk (below_step BX.out hb); clear hb)
            go_ret
            exact ⟨rfl, B6.out⟩
          · have hlt3 : decide ((j : Int) < 3) = true := decide_eq_true (by omega)
            go_upto_region 30 with (fail)
            go_cut [26] (fun v26 wc => ∃ (ge : Nat) (K N : Int) (A7 : Option Addr) (c7 : Nat) (X : List ByteArray), v26 = .pointer (some ⟨ge, 0, none⟩) ∧ Aside0 (wc.heap[ge]? = some (sampleO K N (.slice A7 X.length c7)) ∧ Kd.C Kd.string wc A7 X.length X ∧ X.length ≤ c7 ∧ Good kf n LM K N X ∧ Below w5.heap.size w5 wc))
            case first =>
              have D6 := blk_below D5.out BR.out
              have d0 := blk_cell D6 0
              have d1 := blk_cell D6 1
              have d2 := blk_cell D6 2
              have d3 := blk_cell D6 3
              have d4 := blk_cell D6 4
              have d5 := blk_cell D6 5
              have d6 := blk_cell D6 6
              have d7 := blk_cell D6 7
              have d8 := blk_cell D6 8
              simp only [List.getElem?_toArray, List.getElem?_cons_zero, List.getElem?_cons_succ] at d0 d1 d2 d3 d4 d5 d6 d7 d8
              obtain rfl | rfl | rfl : j = 0 ∨ j = 1 ∨ j = 2 := by omega
              · go_wp2
                go_meet
                case rel => exact ⟨_, n, t.na, Aa, ca, t.la, rfl, ⟨blk_new _ _, Kd.C_below (Kd.V_reads' H5.out.ra).2.2 (below_alloc BR.out _), (Kd.V_reads' H5.out.ra).2.1, GA.out, below_alloc BR.out _⟩⟩
              · go_wp2
                go_meet
                case rel => exact ⟨_, n, t.nb, Ab, cb, t.lb, rfl, ⟨blk_new _ _, Kd.C_below (Kd.V_reads' H5.out.rb).2.2 (below_alloc BR.out _), (Kd.V_reads' H5.out.rb).2.1, GB.out, below_alloc BR.out _⟩⟩
              · go_wp2
                go_meet
                case rel => exact ⟨_, r1, r2, A2, c2, r3, rfl, ⟨blk_new _ _, Kd.C_below R5.out (below_alloc BR.out _), RC.out, GC.out, below_alloc BR.out _⟩⟩
            case rest =>
              obtain ⟨ge, K, N, A7, c7, X, rfl, T⟩ := hcut
              have e0 : wc.cell? ⟨ge, 0, none⟩ = some (.int .i64 K) := (blk_cell T.out.1 0).trans rfl
              have e1 : wc.cell? ⟨ge, 1, none⟩ = some (.int .u64 N) := (blk_cell T.out.1 1).trans rfl
              have e2 : wc.cell? ⟨ge, 2, none⟩ = some (.slice A7 X.length c7) := (blk_cell T.out.1 2).trans rfl
              have hmin := T.out.2.2.2.1.2.1.symm
              go_upto_region 34 with (go_at_call 17; refine (reserve_Right.calls K N A7 c7 X true wc T.out.2.1 T.out.2.2.1 T.out.2.2.2.1.1).mono ?_; rintro e w6 ⟨rfl, hb⟩; have B6 := Aside0.mk hb; clear hb; have g1 : w6.cell? ⟨ge, 1, none⟩ = some (.int .u64 N) := (blk_cell (blk_below T.out.1 B6.out) 1).trans rfl; have g2 : w6.cell? ⟨ge, 2, none⟩ = some (.slice A7 X.length c7) := (blk_cell (blk_below T.out.1 B6.out) 2).trans rfl)
              have T6 := Aside0.mk (And.intro (blk_below T.out.1 B6.out) (And.intro (Kd.C_below T.out.2.1 B6.out) (And.intro T.out.2.2.1 (And.intro T.out.2.2.2.1.2.2 (below_step T.out.2.2.2.2 B6.out)))))
              clear T e0 e1 e2 hmin g1 g2 B6 BR D5 R5 M5
              go_loopw [185] (fun v185 wq => ∃ i : Nat, i ≤ X.length ∧ v185 = .int .i64 (i : Int) ∧ Aside0 (Below w6.heap.size w6 wq)) (fun v185 _ => X.length - (intOf v185).toNat)
              case atStart => exact ⟨0, Nat.zero_le _, rfl, ⟨Below.refl _ _⟩⟩
              case round =>
                obtain ⟨i, hi, rfl, BQ⟩ := hrel
                have hmax := Kd.C_max T6.out.2.1
                by_cases hil : i < X.length
                · have hil2 : decide ((i : Int) < (X.length : Int)) = true := decide_eq_true (by omega)
                  obtain ⟨ad, cs, eA, hlen, hK, hcell⟩ := (Kd.C_below T6.out.2.1 BQ.out).get_ ByteArray.empty (i : Int) (by omega) (by omega)
                  rw [Int.toNat_natCast] at hK hcell
                  obtain ⟨c1, d1, k1, k2, hcd⟩ := T6.out.2.2.2.1 (X.getD i ByteArray.empty) (by rw [List.getD_eq_getElem?_getD, List.getElem?_eq_getElem hil]; exact List.getElem_mem _)
                  generalize X.getD i ByteArray.empty = x at *
                  obtain rfl : cs = [.string x] := hK
                  have hc0 := hcell 0 _ rfl
                  rw [show i * Kd.string.sz + 0 = i from Nat.mul_one i] at hc0
                  clear hcell hlen
                  have K1 := Lib.hid k1
                  have K2 := Lib.hid k2
                  clear k1 k2
                  have hcd2 : decide (d1 < c1) = false := decide_eq_false (by omega)
                  cases eA
                  have g2 : wr.cell? ⟨ge, 2, none⟩ = some (.slice (some ad) X.length c7) := (blk_cell (blk_below T6.out.1 BQ.out) 2).trans rfl
                  go_wp2_with (first
                    | (go_at_call_of 21 (Value.slice (some ad) X.length c7); refine (samphireref16_Count.calls kf (some ad) c7 X x c1 _ (Kd.C_below T6.out.2.1 BQ.out) T6.out.2.2.1 K1.out).mono ?_; rintro e w8 ⟨rfl, hd⟩; have B8 := Aside0.mk (below_step BQ.out (drawn_below hd)); clear hd)
                    | (go_at_call_of 21 (Value.slice Al LM.length cl); refine (samphireref16_Count.calls kf Al cl LM x d1 _ (Kd.C_below (Kd.R_reads' H5.out.all).2.2 (below_step T6.out.2.2.2.2 B8.out)) (Kd.R_reads' H5.out.all).2.1 K2.out).mono ?_; rintro e w9 ⟨rfl, hd⟩; have B9 := Aside0.mk (below_step B8.out (drawn_below hd)); clear hd))
                  exact ⟨⟨i + 1, by omega, by go_num, B9⟩, by simp [intOf]; omega⟩
                · have hil2 : decide ((i : Int) < (X.length : Int)) = false := decide_eq_false (by omega)
                  go_wp2_with (fail)
                  exact ⟨⟨j + 1, by omega, by go_num, ⟨below_step T6.out.2.2.2.2 BQ.out⟩⟩, by simp [intOf]; omega⟩
end Go.Proofs.Ythgacimoifbhiaa
