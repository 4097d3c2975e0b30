/- The walk of the law ReserveEven. -/
import Derived.Test.YthgacimoifbhiaaEvenF
namespace Go.Proofs.Ythgacimoifbhiaa
attribute [local go_sem ↓] Go.wp_at_zero Go.wp_at_succ
open Go.RowKit Go.Maps Go.Proofs.Ythgacimoifbhiaa.Q Go.Proofs.YthgacimoifbhiaaW.PrintWords Go.Proofs.YthgacimoifbhiaaW.PrintLast Go.Proofs.YthgacimoifbhiaaW.PrintMore
set_option linter.unusedVariables false
set_option linter.unusedSimpArgs false
set_option maxRecDepth 100000 in
set_option maxHeartbeats 4000000 in
theorem even_in (kf : Nat) (k more : Int) (n extra : Nat) (w : World) (V E C : Nat → Nat) (N : Nat → Nat → Int) (X : Nat → Nat → List ByteArray) (R S M : Nat → Nat → Int) (D : Nat → DataW Unit)
    (haw : samphirelaw16_awake.f kf = some true)
    (hn : wrap64 (1 + wrap64 (k.tmod 3)) = (n : Int)) (he : wrap64 (more.tmod 4) = (extra : Int)) (hn1 : 1 ≤ n) (hn3 : n ≤ 3) (he3 : extra ≤ 3)
    (hV0 : V 0 = 1) (hE0 : E 0 = 1) (hC0 : C 0 = 1)
    (hV : ∀ i : Nat, i < extra → wrap64 ((V i : Int) * ((n : Int) + 1 + i)) = (V (i + 1) : Int))
    (hE : ∀ i : Nat, i < extra → wrap64 ((E i : Int) * (1 + (i : Int))) = (E (i + 1) : Int))
    (hVm : V extra ≤ 1000) (hD0 : D 0 = .map [])
    (hX : ∀ v, v < V extra → (X v (n + extra)).length ≤ 3)
    (hset : ∀ v, v < V extra → S v 0 = 0 ∧ ∀ j, j < (X v (n + extra)).length → ∃ d : Nat, d ≤ 5 ∧ (X v (n + extra)).getD j ByteArray.empty = ⟨#[UInt8.ofNat (97 + d)]⟩ ∧ bits BinOp.or IntKind.i64 (S v j) (wrap64 (2 ^ d)) = S v (j + 1))
    (hsk : ∀ v, v < V extra → 0 ≤ S v (X v (n + extra)).length ∧ S v (X v (n + extra)).length ≤ 63)
    (hmap : ∀ v, v < V extra → ∀ c, (D v).atKey (.int .i64 (S v (X v (n + extra)).length)) (.lit (.int .i64 0)) = .lit (.int .i64 c) → D (v + 1) = (D v).put (.int .i64 (S v (X v (n + extra)).length)) (.lit (.int .i64 (wrap64 (c + 1)))))
    (hall : ∀ (x c : Int), Maps.has (D (V extra)) (.int .i64 x) = true → (∀ zd, (D (V extra)).atKey (.int .i64 x) zd = .lit (.int .i64 c)) → c = E extra)
    (hC : ∀ i : Nat, i < n → wrap64 ((wrap64 ((C i : Int) * ((n : Int) + extra - i))).tdiv ((i : Int) + 1)) = (C (i + 1) : Int)) (hsize : Maps.size (D (V extra)) = C n)
    (hN : reserve_New.f (n : Int) = some ((n : Int), 0, [], 0))
    (h0 : ∀ v, N v 0 = 0 ∧ X v 0 = [] ∧ R v 0 = (v : Int)) (hR : ∀ v i, v < V extra → 0 ≤ R v i ∧ R v i ≤ 1000)
    (hstep : ∀ v i, v < V extra → i < n + extra → (∃ r4 r5, reserve_Add.f kf n (N v i) (X v i) (evKey i) (evWords n i (R v i)) 0 = some ((n : Int), N v (i + 1), X v (i + 1), r4, r5, 0)) ∧ R v (i + 1) = if n ≤ i then R v i / ((i : Int) + 1) else R v i) :
    Calls Try.prog 3 #[.int .u8 k, .int .u8 more] w fun e w' => e = .returned (.bool true) ∧ Below w.heap.size w w' := by
  have hu26 := Try.underlying26
  have hu32 := Try.underlying32
  have hmm := @run_makeMap Try.prog
  have FA := Lib.hid (fun w => samphirelaw16_awake.calls kf true w haw)
  have FN := Lib.hid (fun w => reserve_New.calls n n 0 [] 0 w hN)
  have HS := Lib.hid hstep
  have HNE := Lib.hid (And.intro hn he)
  clear haw hN hstep hn he
  go_enter Try.func3, Try.ntmps3
  go_upto_region 2 with (fail)
  rw [HNE.out.1, HNE.out.2]
  clear HNE
  have B0 := Aside0.mk (Below.refl w.heap.size w)
  go_wp2_with (fail)
  go_loopw [7, 8, 9, 35] (fun v7 v8 v9 v35 wr => ∃ i : Nat, i ≤ extra ∧ v7 = .int .i64 (V i : Int) ∧ v8 = .int .i64 (E i : Int) ∧ v35 = .int .i64 (i : Int) ∧ Aside0 (Below w.heap.size w wr)) (fun _ _ _ v35 _ => extra - (intOf v35).toNat)
  case atStart => exact ⟨0, Nat.zero_le _, by rw [hV0]; rfl, by rw [hE0]; rfl, rfl, B0⟩
  case round =>
    obtain ⟨i, hi, rfl, rfl, rfl, B1⟩ := hrel
    by_cases hlt : i < extra
    · have hlt2 : decide ((i : Int) < (extra : Int)) = true := decide_eq_true (by omega)
      have h1 := Lib.hid (hV i hlt)
      have h2 := Lib.hid (hE i hlt)
      go_wp2_with (fail)
      exact ⟨⟨i + 1, by omega, by rw [h1.out], by rw [h2.out], by go_num, B1⟩, by simp [intOf]; omega⟩
    · have hlt2 : decide ((i : Int) < (extra : Int)) = false := decide_eq_false (by omega)
      obtain rfl : i = extra := by omega
      go_upto_region 10 with (fail)
      clear hV hE hV0 hE0 B0
      have B2 := Aside0.mk (below_alloc B1.out (.map #[] 0))
      have G2 := Aside0.mk (show w.heap.size ≤ wr.heap.size from B1.out.size)
      have O2 := Aside0.mk (World.ownsMap_made (H := Unit) wr Try.prog 3 (plainElem Try.prog 3))
      obtain ⟨w2, hw2⟩ : ∃ w2, w2 = wr.alloc (.map #[] 0) := ⟨_, rfl⟩
      rw [← hw2] at B2 O2
      rw [← hw2]
      clear hw2 B1
      generalize wr.heap.size = gm at *
      generalize V i = vec at *
      generalize E i = each at *
      go_wp2_with (fail)
      go_loopw [51] (fun v51 wr => ∃ v : Nat, v ≤ vec ∧ v51 = .int .i64 (v : Int) ∧ Aside0 (wr.ownsMap Try.prog 3 (plainElem Try.prog 3) gm v (D v) ∧ Below w.heap.size w wr)) (fun v51 _ => vec - (intOf v51).toNat)
      case atStart => exact ⟨0, Nat.zero_le _, rfl, ⟨by rw [hD0]; exact O2.out, B2.out⟩⟩
      case round =>
        obtain ⟨v, hv, rfl, T⟩ := hrel
        clear O2 B2
        by_cases hlt : v < vec
        · have hlt2 : decide ((v : Int) < (vec : Int)) = true := decide_eq_true (by omega)
          go_upto_region 14 with (go_at_call 9; refine (FN.out _).mono ?_; rintro e w3 ⟨v3, rfl, hR3, hb⟩; obtain ⟨A3, c3, rfl⟩ := Kd.R_slice hR3; have R3 := Aside0.mk hR3; have B3 := Aside0.mk hb; clear hR3 hb)
          obtain ⟨w4, hw4⟩ : ∃ w4, w4 = w3.alloc (sampleO (n : Int) 0 (.slice A3 0 c3)) := ⟨_, rfl⟩
          have B4 := Aside0.mk (below_alloc B3.out (sampleO (n : Int) 0 (.slice A3 0 c3)))
          have P4 := Aside0.mk (blk_new w3 (sampleO (n : Int) 0 (.slice A3 0 c3)))
          have R4 := Aside0.mk (Kd.R_alloc R3.out (sampleO (n : Int) 0 (.slice A3 0 c3)))
          have G4 := Aside0.mk (show wr.heap.size ≤ w3.heap.size from B3.out.size)
          change Code.wp _ _ _ _ (w3.alloc (sampleO (n : Int) 0 (.slice A3 0 c3)))
          rw [← hw4] at B4 P4 R4
          rw [← hw4]
          clear hw4 B3 R3
          generalize w3.heap.size = gs at *
          have H4 : He w w4 gs gm n (N v 0) A3 c3 (X v 0) v (D v) := by
            have q1 := T.out.1.lt
            have q2 := G4.out
            rw [(h0 v).1, (h0 v).2.1]
            refine ⟨P4.out, V_base 0 (Kd.R_V (base' := 0) (Kd.R_reok rfl R4.out ?_)), T.out.1.kept (grown_of_below B4.out none) (by simp), by omega, ⟨Nat.le_trans T.out.2.size q2, G2.out⟩, below_step T.out.2 B4.out⟩
            intro k hk e
            exact Kd.R_ne R4.out P4.out (by decide) (by rw [hk, e])
          have K4 := Aside0.mk H4
          clear H4 P4 R4 B4 G4 T
          go_wp2_with (fail)
          go_loopw [14, 63] (fun v14 v63 wr => ∃ (j : Nat) (A : Option Addr) (c : Nat), j ≤ n + i ∧ v14 = .int .i64 (R v j) ∧ v63 = .int .i64 (j : Int) ∧ Aside0 (He w wr gs gm n (N v j) A c (X v j) v (D v))) (fun _ v63 _ => n + i - (intOf v63).toNat)
          case atStart => exact ⟨0, A3, c3, Nat.zero_le _, by rw [(h0 v).2.2], rfl, K4⟩
          case round =>
            obtain ⟨j, A5, c5, hj, rfl, rfl, K5⟩ := hrel
            clear K4
            by_cases hjl : j < n + i
            · have hlt3 : decide ((j : Int) < (n : Int) + (i : Int)) = true := decide_eq_true (by omega)
              obtain ⟨⟨r4, r5, hadd⟩, hnext⟩ := HS.out v j hlt hjl
              have hr := hR v j hlt
              obtain ⟨r, hrr⟩ : ∃ r, R v j = r := ⟨_, rfl⟩
              obtain ⟨N1, hN1⟩ : ∃ N1, N v j = N1 := ⟨_, rfl⟩
              obtain ⟨X1, hX1⟩ : ∃ X1, X v j = X1 := ⟨_, rfl⟩
              rw [hN1, hX1] at K5 hadd
              rw [hrr] at hadd hnext hr
              rw [hrr]
              have HADD := Lib.hid hadd
              have HNEXT := Lib.hid hnext
              clear hadd hnext hrr hN1 hX1
              go_upto_region 19 with (fail)
              obtain ⟨w6, hw6⟩ : ∃ w6, w6 = wr.alloc (wordsO (.slice none 0 0) 0) := ⟨_, rfl⟩
              have K6 := Aside0.mk (K5.out.below (below_alloc (Below.refl wr.heap.size wr) (wordsO (.slice none 0 0) 0)))
              have O6 := Aside0.mk (blk_new wr (wordsO (.slice none 0 0) 0))
              have G6 := Aside0.mk (And.intro (blk_lt K5.out.s) K5.out.m.lt)
              have V6 := Aside0.mk (show Kd.V Kd.string 9 (wr.alloc (wordsO (.slice none 0 0) 0)) 0 (fun k => k ≠ gs ∧ k < wr.heap.size) (.slice A5 X1.length c5) X1 from Kd.V_alloc (Kd.V_bound K5.out.r) _)
              change Code.wp _ _ _ _ (wr.alloc (wordsO (.slice none 0 0) 0))
              rw [← hw6] at K6 O6 V6
              rw [← hw6]
              clear hw6 K5
              generalize wr.heap.size = gw at *
              go_upto_if 68 with (fail)
              go_cut [14] (fun v14 wc => ∃ (A : Option Addr) (c : Nat), v14 = .int .i64 (R v (j + 1)) ∧ Aside0 (He w wc gs gm n N1 A5 c5 X1 v (D v) ∧ wc.heap[gw]? = some (wordsO (.slice A (evWords n j r).length c) 0) ∧ Kd.V (Kd.int .u64) 23 wc 0 (fun k => k ≠ gs) (.slice A (evWords n j r).length c) (evWords n j r)))
              case first =>
                by_cases hnj : n ≤ j
                · have hnj2 : decide ((n : Int) ≤ (j : Int)) = true := decide_eq_true (by omega)
                  have e1 : (((j : Int) + 1) == 0) = false := by simp; omega
                  go_upto_region 21 with ((with_reducible refine gate_dst (N := 74) rfl ?_); refine Kd.R_lit (Kd.int .u64) w6.heap.size 23 ?hg (N := 74) ?hd (xs := ([IntKind.u64.wrap (r % ((j : Int) + 1))] : List Int)) (inner := [.int .u64 (IntKind.u64.wrap (r % ((j : Int) + 1)))]) (ok := fun k => w6.heap.size ≤ k) (okp := fun k => w6.heap.size ≤ k) ?hr ?hp (fun _ hk => hk) (Nat.le_refl _) (Below.refl _ w6) (Nat.le_refl _) (by simp) ?_; (case hd => rfl); (case hg => rfl); (case hr => first | (go_simp; done) | (go_simp; rfl)); (case hp => exact (Reps.one (show Kd.M (Kd.int .u64) _ _ _ (IntKind.u64.wrap (r % ((j : Int) + 1))) [.int .u64 (IntKind.u64.wrap (r % ((j : Int) + 1)))] from rfl) (Reps.none _ _))); intro v7 w7 ho7 hb7 hg_ hnew_; obtain ⟨A7, c7, rfl⟩ := Kd.R_slice ho7; have HO7 := Aside0.mk ho7; have HB7 := Aside0.mk hb7; have o0 : w7.cell? ⟨gw, 0, none⟩ = some (.slice none 0 0) := (blk_cell (blk_below O6.out hb7) 0).trans rfl; have o1 : w7.cell? ⟨gw, 1, none⟩ = some (.int .i64 0) := (blk_cell (blk_below O6.out hb7) 1).trans rfl; have fo0 := blk_frozen (blk_below O6.out hb7) 0; have fo1 := blk_frozen (blk_below O6.out hb7) 1; clear ho7 hb7 hg_ hnew_)
                  obtain ⟨w8, hw8⟩ : ∃ w8, w8 = (w7.setCell ⟨gw, 0, none⟩ (.slice A7 1 c7)).setCell ⟨gw, 1, none⟩ (.int .i64 0) := ⟨_, rfl⟩
                  have l6 := blk_lt O6.out
                  have K8 := Aside0.mk ((K6.out.below HB7.out).setw (Kd.V_below V6.out HB7.out) G6.out.1 G6.out.2 (Nat.le_trans K6.out.lo.1 (Nat.le_of_lt G6.out.1)) (.slice A7 1 c7) (.int .i64 0))
                  have O8 := Aside0.mk (put32 (blk_below O6.out HB7.out) (.slice A7 1 c7) 0)
                  have f7 : ∀ k, w6.heap.size ≤ k → k ≠ gw := fun k hk => by omega
                  have W8 := Aside0.mk (show Kd.V (Kd.int .u64) 23 ((w7.setCell ⟨gw, 0, none⟩ (.slice A7 1 c7)).setCell ⟨gw, 1, none⟩ (.int .i64 0)) 0 (fun k => k ≠ gs) (.slice A7 1 c7) [IntKind.u64.wrap (r % ((j : Int) + 1))] from
                    Kd.V_mono (V_base 0 (Kd.R_V (base' := 0) (Kd.R_far (Kd.R_far HO7.out f7 _) f7 _))) (fun k hk => by have := G6.out.1; omega))
                  change Code.wp _ _ _ _ ((w7.setCell ⟨gw, 0, none⟩ (.slice A7 1 c7)).setCell ⟨gw, 1, none⟩ (.int .i64 0))
                  rw [← hw8] at K8 O8 W8
                  rw [← hw8]
                  clear hw8 HO7 HB7 o0 o1 fo0 fo1 K6 V6 O6 f7
                  have hq := HNEXT.out
                  rw [if_pos hnj] at hq
                  go_wp2_with (fail)
                  go_meet
                  case rel => exact ⟨A7, c7, by rw [hq], ⟨K8.out, by rw [evWords, if_pos hnj]; exact O8.out, by rw [evWords, if_pos hnj]; exact W8.out⟩⟩
                · have hnj2 : decide ((n : Int) ≤ (j : Int)) = false := decide_eq_false (by omega)
                  have hq := HNEXT.out
                  rw [if_neg hnj] at hq
                  go_wp2_with (fail)
                  go_meet
                  case rel => exact ⟨none, 0, by rw [hq], ⟨K6.out, by rw [evWords, if_neg hnj]; exact O6.out, by rw [evWords, if_neg hnj]; exact Kd.V_nil _ _ _ _ _⟩⟩
              case rest =>
                obtain ⟨A8, c8, rfl, T⟩ := hcut
                clear K6 O6 V6 G6
                have s0 : wc.cell? ⟨gs, 0, none⟩ = some (.int .i64 n) := (blk_cell T.out.1.s 0).trans rfl
                have s1 : wc.cell? ⟨gs, 1, none⟩ = some (.int .u64 N1) := (blk_cell T.out.1.s 1).trans rfl
                have s2 : wc.cell? ⟨gs, 2, none⟩ = some (.slice A5 X1.length c5) := (blk_cell T.out.1.s 2).trans rfl
                have o0 : wc.cell? ⟨gw, 0, none⟩ = some (.slice A8 (evWords n j r).length c8) := (blk_cell T.out.2.1 0).trans rfl
                have o1 : wc.cell? ⟨gw, 1, none⟩ = some (.int .i64 0) := (blk_cell T.out.2.1 1).trans rfl
                have l5 := T.out.1.lo.1
                go_upto_region 23 with (first
                  | ((with_reducible refine gate_dst (N := 85) rfl ?_); refine Kd.R_lit (Kd.int .u8) wc.heap.size 5 ?hg (N := 85) ?hd (xs := ([97 + (j : Int)] : List Int)) (inner := [.int .u8 (97 + (j : Int))]) (ok := fun k => wc.heap.size ≤ k) (okp := fun k => wc.heap.size ≤ k) ?hr ?hp (fun _ hk => hk) (Nat.le_refl _) (Below.refl _ wc) (Nat.le_refl _) (by simp) ?_; (case hd => rfl); (case hg => rfl); (case hr => first | (go_simp; done) | (go_simp; rfl)); (case hp => exact (Reps.one (show Kd.M (Kd.int .u8) _ _ _ (97 + (j : Int)) [.int .u8 (97 + (j : Int))] from rfl) (Reps.none _ _))); intro v7 w7 ho7 hb7 hg_ hnew_; obtain ⟨A7, c7, rfl⟩ := Kd.R_slice ho7; have hcv7 : (convert 35 9 (.slice A7 1 c7)).run Try.prog w7 = .ok (.string (evKey j)) w7 := own_string (P := Try.prog) Try.underlying35 Try.underlying5 Try.underlying9 (Kd.own_of_R ho7); have T7 := Aside0.mk (And.intro (T.out.1.below hb7) (And.intro (blk_below T.out.2.1 hb7) (Kd.V_below T.out.2.2 hb7))); have o0 : w7.cell? ⟨gw, 0, none⟩ = some (.slice A8 (evWords n j r).length c8) := (blk_cell T7.out.2.1 0).trans rfl;  have o1 : w7.cell? ⟨gw, 1, none⟩ = some (.int .i64 0) := (blk_cell T7.out.2.1 1).trans rfl; clear ho7 hb7 hg_ hnew_)
                  | (go_at_call 10; refine (reserve_Add.calls kf n N1 (fun k => k ≠ gs) A5 c5 X1 (evKey j) (fun k => k ≠ gs) A8 c8 (evWords n j r) 0 n (N v (j + 1)) (X v (j + 1)) r4 r5 0 w7 (V_base _ T7.out.1.r) (V_base _ T7.out.2.2) HADD.out).mono ?_; rintro e w9 ⟨v2, v3, rfl, hV2, hV3, hb2⟩; obtain ⟨A2, c2, rfl⟩ := Kd.V_slice hV2; obtain ⟨A9, c9, rfl⟩ := Kd.V_slice hV3; have V2 := Aside0.mk hV2; have B2 := Aside0.mk hb2; clear hV2 hV3 hb2))
                obtain ⟨w10, hw10⟩ : ∃ w10, w10 = (w9.alloc (sampleO n (N v (j + 1)) (.slice A2 (X v (j + 1)).length c2))).alloc (wordsO (.slice A9 r4.length c9) r5) := ⟨_, rfl⟩
                have B10 := below_alloc (below_alloc B2.out (sampleO n (N v (j + 1)) (.slice A2 (X v (j + 1)).length c2))) (wordsO (.slice A9 r4.length c9) r5)
                have K10 := Aside0.mk (T7.out.1.below B10)
                have P10 := Aside0.mk (blk_alloc (blk_new w9 (sampleO n (N v (j + 1)) (.slice A2 (X v (j + 1)).length c2))) (wordsO (.slice A9 r4.length c9) r5))
                have l7 := blk_lt T7.out.1.s
                have l9 := B2.out.size
                have V10 := Aside0.mk (show Kd.V Kd.string 9 ((w9.alloc (sampleO n (N v (j + 1)) (.slice A2 (X v (j + 1)).length c2))).alloc (wordsO (.slice A9 r4.length c9) r5)) 0 (fun k => k ≠ gs) (.slice A2 (X v (j + 1)).length c2) (X v (j + 1)) from
                  Kd.V_alloc (Kd.V_alloc (V_base 0 (Kd.V_mono V2.out (fun k hk => hk.elim (fun h => h.elim id id) (fun h => by omega)))) _) _)
                have G10 := Aside0.mk (show gs ≠ w9.heap.size by omega)
                change Code.wp _ _ _ _ ((w9.alloc (sampleO n (N v (j + 1)) (.slice A2 (X v (j + 1)).length c2))).alloc (wordsO (.slice A9 r4.length c9) r5))
                rw [← hw10] at K10 P10 V10
                rw [← hw10]
                clear hw10 B10 V2 B2 T7 T s0 s1 s2 o0 o1 hcv7 l7 l9
                generalize w9.heap.size = gt at *
                have t0 : w10.cell? ⟨gt, 0, none⟩ = some (.int .i64 n) := (blk_cell P10.out 0).trans rfl
                have t1 : w10.cell? ⟨gt, 1, none⟩ = some (.int .u64 (N v (j + 1))) := (blk_cell P10.out 1).trans rfl
                have t2 : w10.cell? ⟨gt, 2, none⟩ = some (.slice A2 (X v (j + 1)).length c2) := (blk_cell P10.out 2).trans rfl
                have s0 : w10.cell? ⟨gs, 0, none⟩ = some (.int .i64 n) := (blk_cell K10.out.s 0).trans rfl
                have s1 : w10.cell? ⟨gs, 1, none⟩ = some (.int .u64 N1) := (blk_cell K10.out.s 1).trans rfl
                have s2 : w10.cell? ⟨gs, 2, none⟩ = some (.slice A5 X1.length c5) := (blk_cell K10.out.s 2).trans rfl
                have fs0 := blk_frozen K10.out.s 0
                have fs1 := blk_frozen K10.out.s 1
                have fs2 := blk_frozen K10.out.s 2
                go_wp2_with (fail)
                exact ⟨⟨j + 1, A2, c2, by omega, rfl, by go_num, ⟨K10.out.set V10.out⟩⟩, by simp [intOf]; omega⟩
            · have hlt3 : decide ((j : Int) < (n : Int) + (i : Int)) = false := decide_eq_false (by omega)
              obtain rfl : j = n + i := by omega
              have hx3 := hX v hlt
              obtain ⟨hs0, hsj⟩ := hset v hlt
              generalize N v (n + i) = N1 at *
              generalize R v (n + i) = r at *
              obtain ⟨X1, hX1⟩ : ∃ X1, X v (n + i) = X1 := ⟨_, rfl⟩
              have hk2 := hsk v hlt
              have hm2 := hmap v hlt
              rw [hX1] at K5 hx3 hsj hk2 hm2
              clear hX1 hX hset hsk hmap
              have s2 : wr.cell? ⟨gs, 2, none⟩ = some (.slice A5 X1.length c5) := (blk_cell K5.out.s 2).trans rfl
              go_wp2_with (fail)
              go_loopw [20, 103] (fun v20 v103 wr => ∃ j : Nat, j ≤ X1.length ∧ v20 = .int .i64 (S v j) ∧ v103 = .int .i64 (j : Int) ∧ Aside0 (He w wr gs gm n N1 A5 c5 X1 v (D v))) (fun _ v103 _ => X1.length - (intOf v103).toNat)
              case atStart => exact ⟨0, Nat.zero_le _, by rw [hs0], rfl, K5⟩
              case round =>
                obtain ⟨j, hj, rfl, rfl, K6⟩ := hrel
                clear K5 s2
                by_cases hjl : j < X1.length
                · have hjl2 : decide ((j : Int) < (X1.length : Int)) = true := decide_eq_true (by omega)
                  obtain ⟨d, hd5, hxd, hsn⟩ := hsj j hjl
                  obtain ⟨ad, cs, eA, hlen, hK, hcell⟩ := (Kd.V_reads' K6.out.r).2.2.get_ ByteArray.empty (j : Int) (by omega) (by omega)
                  rw [Int.toNat_natCast] at hK hcell
                  obtain ⟨x, hx⟩ : ∃ x, X1.getD j ByteArray.empty = x := ⟨_, rfl⟩
                  rw [hx] at hK hxd
                  obtain rfl : cs = [.string x] := hK
                  have hc0 := hcell 0 _ rfl
                  rw [show j * Kd.string.sz + 0 = j from Nat.mul_one j] at hc0
                  clear hcell hlen
                  cases eA
                  have hszz : decide ((x.size : Int) ≠ 1) = false := by rw [hxd]; rfl
                  have hsh : (Op.shift BinOp.shl IntKind.i64 1 IntKind.u8 (d : Int)).run Try.prog wr = .ok (.int .i64 (2 ^ d : Nat)) wr := by
                    obtain rfl | rfl | rfl | rfl | rfl | rfl : d = 0 ∨ d = 1 ∨ d = 2 ∨ d = 3 ∨ d = 4 ∨ d = 5 := by omega
                    all_goals kernel_rfl
                  have hx0 : ∀ h : 0 < x.size, ((x[0]'h).toNat : Int) = 97 + d := by
                    subst hxd
                    intro h
                    show (((UInt8.ofNat (97 + d)).toNat : Nat) : Int) = _
                    rw [UInt8.toNat_ofNat']
                    omega
                  have hx1 : (x.size : Int) = 1 := by rw [hxd]; rfl
                  clear hxd
                  go_wp2_with (fail)
                  exact ⟨⟨j + 1, by omega, rfl, by go_num, K6⟩, by simp [intOf]; omega⟩
                · have hjl2 : decide ((j : Int) < (X1.length : Int)) = false := decide_eq_false (by omega)
                  obtain rfl : j = X1.length := by omega
                  have hk0 : (Lit.int .i64 (S v X1.length)).wf = true := WalkArith.wf_i64 (by omega)
                  generalize S v X1.length = sk at *
                  have hown := K6.out.m
                  go_wp2_with (first
                    | (at_lookup; refine wpList_lookup_own_int _ rfl _ _ 22 rfl 3 3 .i64 law3 Try.underlying22 Try.underlying3 (zero3 _) gm v _ rfl hown _ _ rfl (keyOf_int_mk Try.underlying3 hk0) ?_; intro c hat hwc)
                    | (at_mapUpdate; refine wpList_mapUpdate_own _ rfl _ _ _ 22 rfl 3 3 law3 Try.underlying22 _ gm v _ rfl hown (by unfold maxLen; omega) _ _ _ rfl rfl (keyOf_int_mk Try.underlying3 hk0) _ [] (plainElem_int Try.underlying3 (wrap64_wf _)) ?_; intro w1 hown1 hgrow1))
                  exact ⟨⟨v + 1, by omega, by go_num, ⟨(hm2 c hat).symm ▸ hown1, K6.out.bel.grown hgrow1 K6.out.bel.size (fun j hj => by cases hj; exact K6.out.lo.2)⟩⟩, by simp [intOf]; omega⟩
        · have hlt2 : decide ((v : Int) < (vec : Int)) = false := decide_eq_false (by omega)
          obtain rfl : v = vec := by omega
          clear HS FN hsk hX hset hmap hR h0 hD0
          go_wp2_with (fail)
          go_loopw [23, 24, 123] (fun v23 v24 v123 wr => ∃ j : Nat, j ≤ n ∧ v23 = .int .i64 (C j : Int) ∧ v123 = .int .i64 (j : Int) ∧ Aside0 (wr.ownsMap Try.prog 3 (plainElem Try.prog 3) gm v (D v) ∧ Below w.heap.size w wr)) (fun _ _ v123 _ => n - (intOf v123).toNat)
          case atStart => exact ⟨0, Nat.zero_le _, by rw [hC0]; rfl, rfl, T⟩
          case round =>
            obtain ⟨j, hj, rfl, rfl, T⟩ := hrel
            by_cases hjl : j < n
            · have hjl2 : decide ((j : Int) < (n : Int)) = true := decide_eq_true (by omega)
              have hc := hC j hjl
              have e1 : (((j : Int) + 1) == 0) = false := by simp; omega
              go_wp2_with (fail)
              exact ⟨⟨j + 1, by omega, by rw [hc], by go_num, T⟩, by simp [intOf]; omega⟩
            · have hjl2 : decide ((j : Int) < (n : Int)) = false := decide_eq_false (by omega)
              obtain rfl : j = n := by omega
              go_wp2_with (at_range; refine wpList_range_own _ rfl _ 22 rfl 3 3 law3 Try.underlying22 _ gm v _ rfl T.out.1 ?_; intro w0 hrg0 hg0 hs0)
              go_frame
              have hbw := T.out.2
              have hms := T.out.2.size
              generalize hr : wr.heap.size = rr at *
              have B0 := Aside0.mk (show Below w.heap.size w w0 from hbw.grown hg0 hbw.size (fun j hj => by cases hj))
              clear T hs0 hg0 hbw
              go_loopw [26] (fun v26 wr => ∃ (left : Lit → Bool) (cnt : Nat), Aside0 (wr.ranges Try.prog 3 (plainElem Try.prog 3) gm rr v (D v) left cnt ∧ (∀ kl, left kl = true → Maps.has (D v) kl = true) ∧ Below w.heap.size w wr)) (fun _ wr => wr.rangeLeft gm rr)
              case atStart => exact ⟨_, _, ⟨hrg0, fun kl h => h, B0.out⟩⟩
              case round =>
                obtain ⟨left, cnt, T⟩ := hrel
                have hrg := T.out.1
                go_wp2_with (at_next; refine wpList_next_ranges_ii _ rfl _ rfl 3 3 .i64 .i64 law3 Try.underlying3 Try.underlying3 gm rr v _ _ _ rfl hrg ?_ ?_)
                · intro _ hl0
                  have hown := hrg.owns
                  have hq : ((Maps.size (D v) : Int) == (C j : Int)) = true := by rw [hsize]; exact beq_self_eq_true _
                  go_wp2_with (first
                    | (at_len; refine wpList_len_own _ rfl _ 22 rfl 3 3 Try.underlying22 _ gm v (D v) rfl hown ?_)
                    | (go_at_call 11; refine (FA.out _).mono ?_; rintro e w5 ⟨rfl, hb⟩; have B5 := Aside0.mk (below_step T.out.2.2 hb); clear hb))
                  go_ret
                  exact ⟨rfl, B5.out⟩
                · intro x c w1 cnt1 hwx hwc hlx hat hrg1 hlt hg1 hs1 hen
                  have hce := hall x c (T.out.2.1 _ hlx) hat
                  go_wp2_with (fail)
                  exact ⟨⟨_, cnt1, ⟨hrg1, fun kl h => T.out.2.1 kl (by simp only [Bool.and_eq_true] at h; exact h.1), T.out.2.2.grown hg1 T.out.2.2.size (fun j hj => by cases hj; exact hms)⟩⟩, by rw [hrg1.left_eq, hrg.left_eq]; exact hlt⟩
end Go.Proofs.Ythgacimoifbhiaa
