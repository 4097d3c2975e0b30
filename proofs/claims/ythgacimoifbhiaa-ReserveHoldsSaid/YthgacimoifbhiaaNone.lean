/- The walk of the law ReserveNone: merged with one to which none came. -/
import Derived.Test.YthgacimoifbhiaaNx3
import Derived.Test.YthgacimoifbhiaaM3
namespace Go.Proofs.Ythgacimoifbhiaa
attribute [local go_sem ↓] Go.wp_at_zero Go.wp_at_succ
open Go.RowKit Go.Proofs.Ythgacimoifbhiaa.Q Go.Proofs.YthgacimoifbhiaaW.PrintWords Go.Proofs.YthgacimoifbhiaaW.PrintLast Go.Proofs.YthgacimoifbhiaaW.PrintMore
set_option linter.unusedVariables false
set_option linter.unusedSimpArgs false
theorem drawn_below {w w' : World} (h : Drawn0 w w') : Below w.heap.size w w' := by obtain ⟨n, rfl⟩ := h; exact pw_below_drewN (Below.refl _ _) n
theorem new_at (w : World) (o1 o2 : Obj) : ((w.alloc o1).alloc o2).heap[w.heap.size + 1]? = some o2 := by rw [← size_push w o1]; exact blk_new _ _
theorem held12 {W w' : World} {s g : Nat} {K N a b : Int} {u v : Value} (h1 : W.heap[s]? = some (sampleO K N u)) (h2 : W.heap[g]? = some (sampleO a b v)) (h : Below W.heap.size W w') :
    w'.cell? ⟨g, 2, none⟩ = some v ∧ w'.cell? ⟨s, 2, none⟩ = some u ∧ Below W.heap.size W w' := ⟨(blk_cell (blk_below h2 h) 2).trans rfl, (blk_cell (blk_below h1 h) 2).trans rfl, h⟩
abbrev noneArgs (K N : Int) (A : Option Addr) (c : Nat) (X : List ByteArray) (AL : Option Addr) (cL : Nat) (l : List Int) (first : Bool) : Array Value :=
  #[.agg #[.int .i64 K, .int .u64 N, .slice A X.length c], .slice AL l.length cL, .bool first]
set_option maxRecDepth 100000 in
set_option maxHeartbeats 4000000 in
theorem none_out (kf : Nat) (K N : Int) (A : Option Addr) (c : Nat) (X : List ByteArray) (AL : Option Addr) (cL : Nat) (l : List Int) (first : Bool) (w : World)
    (hX : Kd.C Kd.string w A X.length X) (hc : X.length ≤ c) (haw : samphirelaw16_awake.f kf = some true)
    (h : samphireref16_Small.f kf X = some false ∨ (samphireref16_Small.f kf X = some true ∧ (reserve_Right.f K N X = some false ∨ (reserve_Right.f K N X = some true ∧ (200 < l.length ∨ (l.length ≤ 200 ∧ 1000 < N)))))) :
    Calls Try.prog 7 (noneArgs K N A c X AL cL l first) w fun e w' => e = .returned (.bool true) ∧ Below w.heap.size w w' := by
  have hu26 := Try.underlying26
  have S0 := Aside0.mk (blk_new w (sampleO K N (.slice A X.length c)))
  have B0 := Aside0.mk (below_alloc (Below.refl w.heap.size w) (sampleO K N (.slice A X.length c)))
  have FA := Lib.hid (fun w => samphirelaw16_awake.calls kf true w haw)
  have HX := Aside0.mk hX
  clear hX haw
  rcases h with h1 | ⟨h1, h2 | ⟨h2, h3 | ⟨h3, h4⟩⟩⟩
  · have F1 := Lib.hid (fun w hr => samphireref16_Small.calls kf A c X false w hr hc h1)
    clear h1
    go_enter Try.func7, Try.ntmps7
    go_wp2_with (first
      | (go_at_call 13; refine (F1.out _ (Kd.C_below HX.out B0.out)).mono ?_; rintro e w2 ⟨rfl, hd⟩; have B2 := Aside0.mk (below_step B0.out (drawn_below hd)); have S2 := Aside0.mk (blk_below S0.out (drawn_below hd)); clear hd)
      | (go_at_call 11; refine (FA.out _).mono ?_; rintro e w5 ⟨rfl, hb⟩; have B5 := Aside0.mk (below_step B2.out hb); clear hb))
    go_ret
    exact ⟨rfl, B5.out⟩
  · have F1 := Lib.hid (fun w hr => samphireref16_Small.calls kf A c X true w hr hc h1)
    have F2 := Lib.hid (fun w hr => reserve_Right.calls K N A c X false w hr hc h2)
    clear h1 h2
    go_enter Try.func7, Try.ntmps7
    go_wp2_with (first
      | (go_at_call 13; refine (F1.out _ (Kd.C_below HX.out B0.out)).mono ?_; rintro e w2 ⟨rfl, hd⟩; have B2 := Aside0.mk (below_step B0.out (drawn_below hd)); have S2 := Aside0.mk (blk_below S0.out (drawn_below hd)); clear hd; have ha0 : w2.cell? ⟨w.heap.size, 0, none⟩ = some (.int .i64 K) := (blk_cell S2.out 0).trans rfl; have ha1 : w2.cell? ⟨w.heap.size, 1, none⟩ = some (.int .u64 N) := (blk_cell S2.out 1).trans rfl; have ha2 : w2.cell? ⟨w.heap.size, 2, none⟩ = some (.slice A X.length c) := (blk_cell S2.out 2).trans rfl)
      | (go_at_call 17; refine (F2.out _ (Kd.C_below HX.out B2.out)).mono ?_; rintro e w3 ⟨rfl, hb⟩; have B3 := Aside0.mk (below_step B2.out hb); clear hb)
      | (go_at_call 11; refine (FA.out _).mono ?_; rintro e w5 ⟨rfl, hb⟩; have B5 := Aside0.mk (below_step B3.out hb); clear hb))
    go_ret
    exact ⟨rfl, B5.out⟩
  · have F1 := Lib.hid (fun w hr => samphireref16_Small.calls kf A c X true w hr hc h1)
    have F2 := Lib.hid (fun w hr => reserve_Right.calls K N A c X true w hr hc h2)
    clear h1 h2
    have hlt : decide ((200 : Int) < (l.length : Int)) = true := decide_eq_true (by omega)
    go_enter Try.func7, Try.ntmps7
    go_wp2_with (first
      | (go_at_call 13; refine (F1.out _ (Kd.C_below HX.out B0.out)).mono ?_; rintro e w2 ⟨rfl, hd⟩; have B2 := Aside0.mk (below_step B0.out (drawn_below hd)); have S2 := Aside0.mk (blk_below S0.out (drawn_below hd)); clear hd; have ha0 : w2.cell? ⟨w.heap.size, 0, none⟩ = some (.int .i64 K) := (blk_cell S2.out 0).trans rfl; have ha1 : w2.cell? ⟨w.heap.size, 1, none⟩ = some (.int .u64 N) := (blk_cell S2.out 1).trans rfl; have ha2 : w2.cell? ⟨w.heap.size, 2, none⟩ = some (.slice A X.length c) := (blk_cell S2.out 2).trans rfl)
      | (go_at_call 17; refine (F2.out _ (Kd.C_below HX.out B2.out)).mono ?_; rintro e w3 ⟨rfl, hb⟩; have B3 := Aside0.mk (below_step B2.out hb); clear hb)
      | (go_at_call 11; refine (FA.out _).mono ?_; rintro e w5 ⟨rfl, hb⟩; have B5 := Aside0.mk (below_step B3.out hb); clear hb))
    go_ret
    exact ⟨rfl, B5.out⟩
  · have F1 := Lib.hid (fun w hr => samphireref16_Small.calls kf A c X true w hr hc h1)
    have F2 := Lib.hid (fun w hr => reserve_Right.calls K N A c X true w hr hc h2)
    clear h1 h2
    have hlt : decide ((200 : Int) < (l.length : Int)) = false := decide_eq_false (by omega)
    have hN : decide ((1000 : Int) < N) = true := decide_eq_true h4
    go_enter Try.func7, Try.ntmps7
    go_wp2_with (first
      | (go_at_call 13; refine (F1.out _ (Kd.C_below HX.out B0.out)).mono ?_; rintro e w2 ⟨rfl, hd⟩; have B2 := Aside0.mk (below_step B0.out (drawn_below hd)); have S2 := Aside0.mk (blk_below S0.out (drawn_below hd)); clear hd; have ha0 : w2.cell? ⟨w.heap.size, 0, none⟩ = some (.int .i64 K) := (blk_cell S2.out 0).trans rfl; have ha1 : w2.cell? ⟨w.heap.size, 1, none⟩ = some (.int .u64 N) := (blk_cell S2.out 1).trans rfl; have ha2 : w2.cell? ⟨w.heap.size, 2, none⟩ = some (.slice A X.length c) := (blk_cell S2.out 2).trans rfl)
      | (go_at_call 17; refine (F2.out _ (Kd.C_below HX.out B2.out)).mono ?_; rintro e w3 ⟨rfl, hb⟩; have B3 := Aside0.mk (below_step B2.out hb); have S3 := Aside0.mk (blk_below S2.out hb); clear hb; have hb1 : w3.cell? ⟨w.heap.size, 1, none⟩ = some (.int .u64 N) := (blk_cell S3.out 1).trans rfl)
      | (go_at_call 11; refine (FA.out _).mono ?_; rintro e w5 ⟨rfl, hb⟩; have B5 := Aside0.mk (below_step B3.out hb); clear hb))
    go_ret
    exact ⟨rfl, B5.out⟩
set_option maxRecDepth 100000 in
set_option maxHeartbeats 4000000 in
theorem none_in (kf : Nat) (K N : Int) (A : Option Addr) (c : Nat) (X : List ByteArray) (AL : Option Addr) (cL : Nat) (l : List Int) (first : Bool) (w : World)
    (hX : Kd.C Kd.string w A X.length X) (hc : X.length ≤ c) (hL : Kd.C (Kd.int .u64) w AL l.length l) (hcL : l.length ≤ cL) (haw : samphirelaw16_awake.f kf = some true)
    (h1 : samphireref16_Small.f kf X = some true) (h2 : reserve_Right.f K N X = some true) (h3 : l.length ≤ 200) (h4 : N ≤ 1000)
    (n1 : Int) (A1 : Option Addr) (c1 : Nat) (X1 : List ByteArray) (n2 : Int) (A2 : Option Addr) (c2 : Nat) (X2 : List ByteArray)
    (hC1 : Kd.C Kd.string w A1 X1.length X1) (hc1 : X1.length ≤ c1) (hC2 : Kd.C Kd.string w A2 X2.length X2) (hc2 : X2.length ≤ c2)
    (hf : (first = true ∧ n1 = 0 ∧ A1 = none ∧ c1 = 0 ∧ X1 = [] ∧ n2 = N ∧ A2 = A ∧ c2 = c ∧ X2 = X) ∨ (first = false ∧ n1 = N ∧ A1 = A ∧ c1 = c ∧ X1 = X ∧ n2 = 0 ∧ A2 = none ∧ c2 = 0 ∧ X2 = []))
    (r1 r2 : Int) (r3 : List ByteArray) (r4 : List Int) (r5 r6 : Int) (hM : reserve_Merge.f K n1 X1 K n2 X2 l 0 = some (r1, r2, r3, r4, r5, r6))
    (hr : (r6 = 8 ∧ r5 = 0) ∨ (r6 = 0 ∧ r1 = K ∧ r2 = N ∧ r3.length = X.length ∧ ∀ x ∈ X, ∃ n, samphireref16_Count.f kf r3 x = some n ∧ samphireref16_Count.f kf X x = some n)) :
    Calls Try.prog 7 (noneArgs K N A c X AL cL l first) w fun e w' => e = .returned (.bool true) ∧ Below w.heap.size w w' := by
  have hu26 := Try.underlying26
  have hu32 := Try.underlying32
  have S0 := Aside0.mk (blk_new w (sampleO K N (.slice A X.length c)))
  have B0 := Aside0.mk (below_alloc (Below.refl w.heap.size w) (sampleO K N (.slice A X.length c)))
  have FA := Lib.hid (fun w => samphirelaw16_awake.calls kf true w haw)
  have F1 := Lib.hid (fun w hr => samphireref16_Small.calls kf A c X true w hr hc h1)
  have F2 := Lib.hid (fun w hr => reserve_Right.calls K N A c X true w hr hc h2)
  have FM := Lib.hid (fun w h1 h2 h3 => reserve_Merge.calls K n1 A1 c1 X1 K n2 A2 c2 X2 (fun k => k < w.heap.size) AL cL l 0 r1 r2 r3 r4 r5 r6 w h1 hc1 h2 hc2 h3 hM)
  have HX := Aside0.mk hX
  have HL := Aside0.mk hL
  have HC1 := Aside0.mk hC1
  have HC2 := Aside0.mk hC2
  have HF := Lib.hid hf
  have HR := Lib.hid hr
  clear hX haw h1 h2 hM hL hC1 hC2 hf hr
  have hlt : decide ((200 : Int) < (l.length : Int)) = false := decide_eq_false (by omega)
  have hN : decide ((1000 : Int) < N) = false := decide_eq_false (by omega)
  go_enter Try.func7, Try.ntmps7
  go_upto_region 3 with (first
      | (go_at_call 13; refine (F1.out _ (Kd.C_below HX.out B0.out)).mono ?_; rintro e w2 ⟨rfl, hd⟩; have B2 := Aside0.mk (below_step B0.out (drawn_below hd)); have S2 := Aside0.mk (blk_below S0.out (drawn_below hd)); clear hd; have ha0 : w2.cell? ⟨w.heap.size, 0, none⟩ = some (.int .i64 K) := (blk_cell S2.out 0).trans rfl; have ha1 : w2.cell? ⟨w.heap.size, 1, none⟩ = some (.int .u64 N) := (blk_cell S2.out 1).trans rfl; have ha2 : w2.cell? ⟨w.heap.size, 2, none⟩ = some (.slice A X.length c) := (blk_cell S2.out 2).trans rfl)
      | (go_at_call 17; refine (F2.out _ (Kd.C_below HX.out B2.out)).mono ?_; rintro e w3 ⟨rfl, hb⟩; have B3 := Aside0.mk (below_step B2.out hb); have S3 := Aside0.mk (blk_below S2.out hb); clear hb; have hb0 : w3.cell? ⟨w.heap.size, 0, none⟩ = some (.int .i64 K) := (blk_cell S3.out 0).trans rfl; have hb1 : w3.cell? ⟨w.heap.size, 1, none⟩ = some (.int .u64 N) := (blk_cell S3.out 1).trans rfl; have hb2 : w3.cell? ⟨w.heap.size, 2, none⟩ = some (.slice A X.length c) := (blk_cell S3.out 2).trans rfl))
  clear F1 F2 S2 B2 S0 B0
  obtain ⟨s, hs⟩ : ∃ s, s = w.heap.size := ⟨_, rfl⟩
  rw [← hs] at S3 hb0 hb1 hb2
  rw [← hs]
  have HS := Aside0.mk hs
  clear hs ha0 ha1 ha2
  go_cut [7, 8] (fun v7 v8 wc => ∃ ga gb : Nat, v7 = .pointer (some ⟨ga, 0, none⟩) ∧ v8 = .pointer (some ⟨gb, 0, none⟩) ∧ Aside0 (wc.heap[s]? = some (sampleO K N (.slice A X.length c)) ∧ wc.heap[ga]? = some (sampleO K N (.slice A X.length c)) ∧ wc.heap[gb]? = some (sampleO K 0 (.slice none 0 0)) ∧ ga ≠ gb ∧ s < ga ∧ s < gb) ∧ Aside0 (Below w.heap.size w wc))
  case first =>
    go_region_held3 (fun w' => w'.cell? ⟨s, 0, none⟩ = some (.int .i64 K) ∧ w'.cell? ⟨s, 1, none⟩ = some (.int .u64 N) ∧ w'.cell? ⟨s, 2, none⟩ = some (.slice A X.length c))
      (go_keep)
      (fail)
    all_goals
      go_wp2
      go_meet
    case rel => first
      | exact ⟨w3.heap.size, w3.heap.size + 1, rfl, rfl, ⟨blk_drew (blk_alloc (blk_alloc S3.out _) _), blk_drew (blk_alloc (blk_new _ _) _), blk_drew (new_at _ _ _), by omega, blk_lt S3.out, by have := blk_lt S3.out; omega⟩, ⟨below_drew1 (below_alloc (below_alloc B3.out _) _)⟩⟩
      | exact ⟨w3.heap.size + 1, w3.heap.size, rfl, rfl, ⟨blk_drew (blk_alloc (blk_alloc S3.out _) _), blk_drew (new_at _ _ _), blk_drew (blk_alloc (blk_new _ _) _), by omega, by have := blk_lt S3.out; omega, blk_lt S3.out⟩, ⟨below_drew1 (below_alloc (below_alloc B3.out _) _)⟩⟩
    case rel => first
      | exact ⟨w3.heap.size, w3.heap.size + 1, rfl, rfl, ⟨blk_drew (blk_alloc (blk_alloc S3.out _) _), blk_drew (blk_alloc (blk_new _ _) _), blk_drew (new_at _ _ _), by omega, blk_lt S3.out, by have := blk_lt S3.out; omega⟩, ⟨below_drew1 (below_alloc (below_alloc B3.out _) _)⟩⟩
      | exact ⟨w3.heap.size + 1, w3.heap.size, rfl, rfl, ⟨blk_drew (blk_alloc (blk_alloc S3.out _) _), blk_drew (new_at _ _ _), blk_drew (blk_alloc (blk_new _ _) _), by omega, by have := blk_lt S3.out; omega, blk_lt S3.out⟩, ⟨below_drew1 (below_alloc (below_alloc B3.out _) _)⟩⟩
  case rest =>
    obtain ⟨ga, gb, rfl, rfl, T, BT⟩ := hcut
    have hsw : w.heap.size ≤ s := Nat.le_of_eq HS.out.symm
    have a0 : wc.cell? ⟨ga, 0, none⟩ = some (.int .i64 K) := (blk_cell T.out.2.1 0).trans rfl
    have a1 : wc.cell? ⟨ga, 1, none⟩ = some (.int .u64 N) := (blk_cell T.out.2.1 1).trans rfl
    have a2 : wc.cell? ⟨ga, 2, none⟩ = some (.slice A X.length c) := (blk_cell T.out.2.1 2).trans rfl
    have b0 : wc.cell? ⟨gb, 0, none⟩ = some (.int .i64 K) := (blk_cell T.out.2.2.1 0).trans rfl
    have b1 : wc.cell? ⟨gb, 1, none⟩ = some (.int .u64 0) := (blk_cell T.out.2.2.1 1).trans rfl
    have b2 : wc.cell? ⟨gb, 2, none⟩ = some (.slice none 0 0) := (blk_cell T.out.2.2.1 2).trans rfl
    have fa0 := blk_frozen T.out.2.1 0
    have fa1 := blk_frozen T.out.2.1 1
    have fa2 := blk_frozen T.out.2.1 2
    have fb0 := blk_frozen T.out.2.2.1 0
    have fb1 := blk_frozen T.out.2.2.1 1
    have fb2 := blk_frozen T.out.2.2.1 2
    have hne := T.out.2.2.2.1
    have hne2 := T.out.2.2.2.1.symm
    have hga := T.out.2.2.2.2.1
    have hgb := T.out.2.2.2.2.2
    go_upto_if 38 with (fail)
    go_cut [7] (fun v7 wd => v7 = .pointer (some ⟨ga, 0, none⟩) ∧ Aside0 (wd.heap[s]? = some (sampleO K N (.slice A X.length c)) ∧ wd.heap[ga]? = some (sampleO K n1 (.slice A1 X1.length c1)) ∧ wd.heap[gb]? = some (sampleO K n2 (.slice A2 X2.length c2))) ∧ Aside0 (Below w.heap.size w wd))
    case first =>
      clear FA FM HC1 HC2 HX HL HR hu32
      go_wp2
      · go_meet
        case rel =>
          have ht : first = true := by assumption
          rcases HF.out with ⟨_, rfl, rfl, rfl, rfl, rfl, rfl, rfl, rfl⟩ | ⟨hf, _⟩
          rotate_left
          · rw [ht] at hf; cases hf
          refine ⟨rfl, ⟨?_, ?_, ?_⟩, ⟨?_⟩⟩
          · refine blk_far ?_ (show s ≠ gb by omega) _
            refine blk_far ?_ (show s ≠ gb by omega) _
            refine blk_far ?_ (show s ≠ gb by omega) _
            refine blk_far ?_ (show s ≠ ga by omega) _
            refine blk_far ?_ (show s ≠ ga by omega) _
            refine blk_far ?_ (show s ≠ ga by omega) _
            exact T.out.1
          · refine blk_far ?_ hne _
            refine blk_far ?_ hne _
            refine blk_far ?_ hne _
            exact put26 T.out.2.1 _ _ _
          · have q : (((wc.setCell ⟨ga, 0, none⟩ (.int .i64 K)).setCell ⟨ga, 1, none⟩ (.int .u64 0)).setCell ⟨ga, 2, none⟩ (.slice none 0 0)).heap[gb]? = some (sampleO K 0 (.slice none 0 0)) := blk_far (blk_far (blk_far T.out.2.2.1 hne2 _) hne2 _) hne2 _
            exact put26 q _ _ _
          · refine Below.setCell ?_ (show w.heap.size ≤ gb by omega) _
            refine Below.setCell ?_ (show w.heap.size ≤ gb by omega) _
            refine Below.setCell ?_ (show w.heap.size ≤ gb by omega) _
            refine Below.setCell ?_ (show w.heap.size ≤ ga by omega) _
            refine Below.setCell ?_ (show w.heap.size ≤ ga by omega) _
            refine Below.setCell ?_ (show w.heap.size ≤ ga by omega) _
            exact BT.out
      · go_meet
        case rel =>
          have ht : first = false := by assumption
          rcases HF.out with ⟨hf, _⟩ | ⟨_, rfl, rfl, rfl, rfl, rfl, rfl, rfl, rfl⟩
          · rw [ht] at hf; cases hf
          · exact ⟨rfl, ⟨T.out.1, T.out.2.1, T.out.2.2.1⟩, BT⟩
    case rest =>
      obtain ⟨rfl, T2, BT2⟩ := hcut
      have hst : s < ga ∧ s < gb := T.out.2.2.2.2
      clear T BT a0 a1 a2 b0 b1 b2 fa0 fa1 fa2 fb0 fb1 fb2 hb0 hb1 hb2 S3 B3 HF
      have a0 : wc.cell? ⟨ga, 0, none⟩ = some (.int .i64 K) := (blk_cell T2.out.2.1 0).trans rfl
      have a1 : wc.cell? ⟨ga, 1, none⟩ = some (.int .u64 n1) := (blk_cell T2.out.2.1 1).trans rfl
      have a2 : wc.cell? ⟨ga, 2, none⟩ = some (.slice A1 X1.length c1) := (blk_cell T2.out.2.1 2).trans rfl
      have b0 : wc.cell? ⟨gb, 0, none⟩ = some (.int .i64 K) := (blk_cell T2.out.2.2 0).trans rfl
      have b1 : wc.cell? ⟨gb, 1, none⟩ = some (.int .u64 n2) := (blk_cell T2.out.2.2 1).trans rfl
      have b2 : wc.cell? ⟨gb, 2, none⟩ = some (.slice A2 X2.length c2) := (blk_cell T2.out.2.2 2).trans rfl
      go_upto_region 7 with (go_at_call 19; refine (FM.out _ (Kd.C_below HC1.out BT2.out) (Kd.C_below HC2.out BT2.out) (Kd.V_mk hcL (Kd.C_F (Kd.heap_int .u64) (Kd.C_below HL.out BT2.out)))).mono ?_; rintro e w4 ⟨v2, v3, rfl, hR, hV, hb⟩; obtain ⟨A3, c3, rfl⟩ := Kd.R_slice hR; obtain ⟨A4, c4, rfl⟩ := Kd.V_slice hV; have R4 := Aside0.mk hR; have B4 := Aside0.mk hb; clear hR hV hb)
      obtain ⟨g9, hg9⟩ : ∃ g, g = w4.heap.size := ⟨_, rfl⟩
      obtain ⟨w5, hw5⟩ : ∃ w5, w5 = (w4.alloc (sampleO r1 r2 (.slice A3 r3.length c3))).alloc (wordsO (.slice A4 r4.length c4) r5) := ⟨_, rfl⟩
      have B5 := Aside0.mk (below_alloc (below_alloc (below_step BT2.out B4.out) (sampleO r1 r2 (.slice A3 r3.length c3))) (wordsO (.slice A4 r4.length c4) r5))
      have S5 := Aside0.mk (show ((w4.alloc (sampleO r1 r2 (.slice A3 r3.length c3))).alloc (wordsO (.slice A4 r4.length c4) r5)).heap[s]? = some (sampleO K N (.slice A X.length c)) ∧ ((w4.alloc (sampleO r1 r2 (.slice A3 r3.length c3))).alloc (wordsO (.slice A4 r4.length c4) r5)).heap[w4.heap.size]? = some (sampleO r1 r2 (.slice A3 r3.length c3)) ∧ ((w4.alloc (sampleO r1 r2 (.slice A3 r3.length c3))).alloc (wordsO (.slice A4 r4.length c4) r5)).heap[w4.heap.size + 1]? = some (wordsO (.slice A4 r4.length c4) r5) from
        ⟨blk_alloc (blk_alloc (blk_below T2.out.1 B4.out) _) _, blk_alloc (blk_new _ _) _, new_at _ _ _⟩)
      have R5 := Aside0.mk (Kd.R_reads' (Kd.R_alloc (Kd.R_alloc R4.out (sampleO r1 r2 (.slice A3 r3.length c3))) (wordsO (.slice A4 r4.length c4) r5)))
      change Code.wp _ _ _ _ ((w4.alloc (sampleO r1 r2 (.slice A3 r3.length c3))).alloc (wordsO (.slice A4 r4.length c4) r5))
      rw [← hw5] at B5 S5 R5
      rw [← hw5, ← hg9]
      rw [← hg9] at S5
      clear hw5 hg9 R4 B4 BT2 T2 a0 a1 a2 b0 b1 b2 HC1 HC2 FM HL
      have s1 : w5.cell? ⟨s, 1, none⟩ = some (.int .u64 N) := (blk_cell S5.out.1 1).trans rfl
      have s0 : w5.cell? ⟨s, 0, none⟩ = some (.int .i64 K) := (blk_cell S5.out.1 0).trans rfl
      have s2 : w5.cell? ⟨s, 2, none⟩ = some (.slice A X.length c) := (blk_cell S5.out.1 2).trans rfl
      have m0 : w5.cell? ⟨g9, 0, none⟩ = some (.int .i64 r1) := (blk_cell S5.out.2.1 0).trans rfl
      have m1 : w5.cell? ⟨g9, 1, none⟩ = some (.int .u64 r2) := (blk_cell S5.out.2.1 1).trans rfl
      have m2 : w5.cell? ⟨g9, 2, none⟩ = some (.slice A3 r3.length c3) := (blk_cell S5.out.2.1 2).trans rfl
      have t1 : w5.cell? ⟨g9 + 1, 1, none⟩ = some (.int .i64 r5) := (blk_cell S5.out.2.2 1).trans rfl
      rcases HR.out with ⟨e6, e5⟩ | ⟨e6, e1, e2, e3, hcount⟩
      · have q1 : (r6 != 0) = true := by rw [e6]; decide
        have q2 : (r6 == 8) = true := by rw [e6]; decide
        have q3 : (r5 == 0) = true := by rw [e5]; decide
        clear e6 e5
        go_wp2_with (go_at_call 11; refine (FA.out _).mono ?_; rintro e w6 ⟨rfl, hb⟩; have B6 := Aside0.mk (below_step B5.out hb); clear hb)
        go_ret
        exact ⟨rfl, B6.out⟩
      · have q1 : (r6 != 0) = false := by rw [e6]; decide
        have q2 : (r2 == N) = true := beq_iff_eq.mpr e2
        have q3 : (r1 == K) = true := beq_iff_eq.mpr e1
        have q4 : ((r3.length : Int) == (X.length : Int)) = true := beq_iff_eq.mpr (by rw [e3])
        have HCN := Lib.hid hcount
        clear e6 e1 e2 e3 hcount
        go_wp2_with (fail)
        clear s0 s1 s2 m0 m1 m2 t1
        have X5 := Aside0.mk (Kd.C_below HX.out B5.out)
        clear HX
        go_loopw [65] (fun v65 wr => ∃ j : Nat, j ≤ X.length ∧ v65 = .int .i64 (j : Int) ∧ Aside0 (Below w5.heap.size w5 wr)) (fun v65 _ => X.length - (intOf v65).toNat)
        case atStart => exact ⟨0, Nat.zero_le _, rfl, ⟨Below.refl _ _⟩⟩
        case round =>
          obtain ⟨j, hj, rfl, BR⟩ := hrel
          have s0 : wr.cell? ⟨s, 0, none⟩ = some (.int .i64 K) := (blk_cell (blk_below S5.out.1 BR.out) 0).trans rfl
          have s1 : wr.cell? ⟨s, 1, none⟩ = some (.int .u64 N) := (blk_cell (blk_below S5.out.1 BR.out) 1).trans rfl
          have s2 : wr.cell? ⟨s, 2, none⟩ = some (.slice A X.length c) := (blk_cell (blk_below S5.out.1 BR.out) 2).trans rfl
          have m0 : wr.cell? ⟨g9, 0, none⟩ = some (.int .i64 r1) := (blk_cell (blk_below S5.out.2.1 BR.out) 0).trans rfl
          have m1 : wr.cell? ⟨g9, 1, none⟩ = some (.int .u64 r2) := (blk_cell (blk_below S5.out.2.1 BR.out) 1).trans rfl
          have m2 : wr.cell? ⟨g9, 2, none⟩ = some (.slice A3 r3.length c3) := (blk_cell (blk_below S5.out.2.1 BR.out) 2).trans rfl
          by_cases hlt : j < X.length
          · have hlt2 : decide ((j : Int) < (X.length : Int)) = true := decide_eq_true (by omega)
            have hmax := Kd.C_max X5.out
            obtain ⟨ad, cs, eA, hlen, hK, hcell⟩ := (Kd.C_below X5.out BR.out).get_ ByteArray.empty (j : Int) (by omega) (by omega)
            rw [Int.toNat_natCast] at hK hcell
            obtain ⟨n, k1, k2⟩ := HCN.out (X.getD j ByteArray.empty) (by rw [List.getD_eq_getElem?_getD, List.getElem?_eq_getElem hlt]; exact List.getElem_mem _)
            generalize X.getD j ByteArray.empty = x at *
            obtain rfl : cs = [.string x] := hK
            have hc0 := hcell 0 _ rfl
            rw [show j * Kd.string.sz + 0 = j from Nat.mul_one j] at hc0
            clear hcell hlen
            have E1 := Lib.hid k1
            have E2 := Lib.hid k2
            clear k1 k2
            cases eA
            go_upto_region 12 with (fail)
            go_region_held3 (fun w' => w'.cell? ⟨g9, 2, none⟩ = some (.slice A3 r3.length c3) ∧ w'.cell? ⟨s, 2, none⟩ = some (.slice (some ad) X.length c) ∧ Below w5.heap.size w5 w')
              ((refine held12 S5.out.1 S5.out.2.1 ?_; repeat (with_reducible first | assumption | exact BR.out | exact C1.out | exact C2.out | apply below_drew1)))
              (first
              | (go_at_call_of 21 (Value.slice A3 r3.length c3); (refine (samphireref16_Count.calls kf A3 c3 r3 x n _ ?h1 R5.out.2.1 E1.out).mono ?_); (case h1 => exact Kd.C_below R5.out.2.2 (by repeat (with_reducible first | assumption | exact BR.out | exact C1.out | exact C2.out | apply below_drew1))); rintro e w6 ⟨rfl, hd⟩; have C1 := Aside0.mk (below_step (by repeat (with_reducible first | assumption | exact BR.out | exact C2.out | apply below_drew1) : Below w5.heap.size w5 _) (drawn_below hd)); clear hd)
              | (go_at_call_of 21 (Value.slice (some ad) X.length c); (refine (samphireref16_Count.calls kf (some ad) c X x n _ ?h1 hc E2.out).mono ?_); (case h1 => exact Kd.C_below X5.out (by repeat (with_reducible first | assumption | exact BR.out | exact C1.out | exact C2.out | apply below_drew1))); rintro e w7 ⟨rfl, hd⟩; have C2 := Aside0.mk (below_step (by repeat (with_reducible first | assumption | exact BR.out | exact C1.out | apply below_drew1) : Below w5.heap.size w5 _) (drawn_below hd)); clear hd))
            all_goals
              go_wp2
            exact ⟨⟨j + 1, by omega, by go_num, ⟨C2.out⟩⟩, by simp [intOf]; omega⟩
          · have hlt2 : decide ((j : Int) < (X.length : Int)) = false := decide_eq_false (by omega)
            go_wp2_with (go_at_call 11; refine (FA.out _).mono ?_; rintro e w6 ⟨rfl, hb⟩; have B6 := Aside0.mk (below_step (below_step B5.out BR.out) hb); clear hb)
            go_ret
            exact ⟨rfl, B6.out⟩
end Go.Proofs.Ythgacimoifbhiaa
