import Derived.Test.YthgacimoifbhiaaQx1
import Derived.StillTailTactics
namespace Go.Proofs.Ythgacimoifbhiaa
open Go.RowKit Go.Proofs.Ythgacimoifbhiaa.Q Go.Proofs.YthgacimoifbhiaaW.PrintWords Go.Proofs.YthgacimoifbhiaaW.PrintLast Go.Proofs.YthgacimoifbhiaaW.PrintMore
set_option linter.unusedVariables false
set_option linter.unusedSimpArgs false
structure Kt (w W : World) (S : Nat → Prop) : Prop where
  kept : Kept w W S
  os : W.os = w.os
  tape : W.tape = w.tape
  output : W.output = w.output
section
variable {w W W2 : World} {S S2 : Nat → Prop}
theorem Kt.of_below (h : Below w.heap.size w W) (S : Nat → Prop) : Kt w W S := ⟨Kept.of_below h S, h.os, h.tape, h.output⟩
theorem Kt.drew (h : Kt w W S) : Kt w W.drew S := ⟨Kept.drew h.kept, h.os, h.tape, h.output⟩
theorem Kt.setCell (h : Kt w W S) {p : Addr} (hp : S p.block ∨ w.heap.size ≤ p.block) (u : Value) : Kt w (W.setCell p u) S := ⟨Kept.setCell h.kept hp u, h.os, h.tape, h.output⟩
theorem Kt.then_ (h : Kt w W S) (k : Kt W W2 S2) (hs : ∀ k, S2 k → S k ∨ w.heap.size ≤ k) : Kt w W2 S := ⟨Kept.then_ h.kept k.kept hs, k.os.trans h.os, k.tape.trans h.tape, k.output.trans h.output⟩
theorem Kt.below {B : Nat} {w0 : World} (h : Below B w0 w) (k : Kt w W S) (hB : B ≤ w.heap.size) (hs : ∀ k, S k → B ≤ k) : Below B w0 W :=
  ⟨k.os.trans h.os, k.tape.trans h.tape, k.output.trans h.output, Nat.le_trans h.size k.kept.1, fun i hi => (k.kept.2 i (by omega) (fun h2 => by have := hs i h2; omega)).trans (h.block i hi)⟩
end
abbrev sideO (n : Int) (v : Value) : Obj := .cells #[.int .u64 n, v] 64 (0, 0)
abbrev wordsO (v : Value) (a : Int) : Obj := .cells #[v, .int .i64 a] 32 (0, 0)
structure St (w : World) (gx g gw : Nat) (n : Int) (m cap : Nat) (left : List ByteArray) (A : Option Addr) (c : Nat) (l : List Int) (a : Int) (base : Nat) (P : Nat → Prop) : Prop where
  x : w.heap[gx]? = some (sideO n (.slice (some ⟨g, 0, none⟩) m cap))
  r : Kd.R Kd.string 9 w base (fun k => k = g) (.slice (some ⟨g, 0, none⟩) m cap) left
  o : w.heap[gw]? = some (wordsO (.slice A l.length c) a)
  v : Kd.V (Kd.int .u64) 23 w base P (.slice A l.length c) l
  p : ∀ k, P k → k ≠ gx ∧ k ≠ g ∧ k ≠ gw ∧ k ≠ gw + 1
  ne : gx ≠ g ∧ gx < gw ∧ g < gw ∧ gw + 1 < w.heap.size
  q : ∃ u b, w.heap[gw + 1]? = some (wordsO u b)
section
variable {w w1 : World} {gx g gw m cap c base : Nat} {n a : Int} {left : List ByteArray} {A : Option Addr} {l : List Int} {P : Nat → Prop}
theorem St.below (h : St w gx g gw n m cap left A c l a base P) (hb : Below w.heap.size w w1) : St w1 gx g gw n m cap left A c l a base P :=
  ⟨blk_below h.x hb, Kd.R_below h.r hb, blk_below h.o hb, Kd.V_below h.v hb, h.p, ⟨h.ne.1, h.ne.2.1, h.ne.2.2.1, Nat.lt_of_lt_of_le h.ne.2.2.2 hb.size⟩, by obtain ⟨u, b, q⟩ := h.q; exact ⟨u, b, blk_below q hb⟩⟩
theorem St.x0 (h : St w gx g gw n m cap left A c l a base P) : w.cell? ⟨gx, 0, none⟩ = some (.int .u64 n) := (blk_cell h.x 0).trans rfl
theorem St.x1 (h : St w gx g gw n m cap left A c l a base P) : w.cell? ⟨gx, 1, none⟩ = some (.slice (some ⟨g, 0, none⟩) m cap) := (blk_cell h.x 1).trans rfl
theorem St.of (h : St w gx g gw n m cap left A c l a base P) (i : Nat) : w.frozen? ⟨gw, i, none⟩ = false := blk_frozen h.o i
theorem St.xf (h : St w gx g gw n m cap left A c l a base P) (i : Nat) : w.frozen? ⟨gx, i, none⟩ = false := blk_frozen h.x i
theorem St.put (h : St w gx g gw n m cap left A c l a base P) {A' : Option Addr} {c' : Nat} {l' : List Int} {b : Int} {base' : Nat} {P' : Nat → Prop} (hV : Kd.V (Kd.int .u64) 23 w base' P' (.slice A' l'.length c') l') (hp : ∀ k, P' k → k ≠ gx ∧ k ≠ g ∧ k ≠ gw ∧ k ≠ gw + 1) :
    St ((w.setCell ⟨gw, 0, none⟩ (.slice A' l'.length c')).setCell ⟨gw, 1, none⟩ (.int .i64 b)) gx g gw n m cap left A' c' l' b base P' :=
  ⟨blk_far (blk_far h.x (by have := h.ne; simp; omega) _) (by have := h.ne; simp; omega) _,
   Kd.R_far (Kd.R_far h.r (fun k hk => by subst hk; have := h.ne; simp; omega) _) (fun k hk => by subst hk; have := h.ne; simp; omega) _,
   blk_put (cs := #[.slice A' l'.length c', .int .i64 a]) (blk_put (cs := #[.slice A l.length c, .int .i64 a]) h.o 0 _ rfl) 1 _ rfl,
   Kd.V_far (Kd.V_far hV (fun k hk => (hp k hk).2.2.1) _) (fun k hk => (hp k hk).2.2.1) _, hp,
   ⟨h.ne.1, h.ne.2.1, h.ne.2.2.1, by obtain ⟨u, b, q⟩ := h.q; exact blk_lt (blk_far (blk_far q (by simp) _) (by simp) _)⟩,
   by obtain ⟨u, b, q⟩ := h.q; exact ⟨u, b, blk_far (blk_far q (by simp) _) (by simp) _⟩⟩
theorem St.store (h : St w gx g gw n m cap left A c l a base P) (i : Int) (x : ByteArray) : St (w.setCell ⟨g, i.toNat, none⟩ (.string x)) gx g gw n m cap (left.set i.toNat x) A c l a base P :=
  ⟨blk_far h.x h.ne.1 _, Kd.R_putn h.r i x, blk_far h.o (by have := h.ne; simp; omega) _, Kd.V_far h.v (fun k hk => (h.p k hk).2.1) _, h.p,
   ⟨h.ne.1, h.ne.2.1, h.ne.2.2.1, by obtain ⟨u, b, q⟩ := h.q; exact blk_lt (blk_far q (by have := h.ne; simp; omega) _)⟩,
   by obtain ⟨u, b, q⟩ := h.q; exact ⟨u, b, blk_far q (by have := h.ne; simp; omega) _⟩⟩
theorem St.cut (h : St w gx g gw n m cap left A c l a base P) (n2 : Int) (m2 : Nat) (hm : m2 ≤ left.length) : St ((w.setCell ⟨gx, 1, none⟩ (.slice (some ⟨g, 0, none⟩) m2 cap)).setCell ⟨gx, 0, none⟩ (.int .u64 n2)) gx g gw n2 m2 cap (left.take m2) A c l a base P :=
  ⟨blk_put (cs := #[.int .u64 n, .slice (some ⟨g, 0, none⟩) m2 cap]) (blk_put (cs := #[.int .u64 n, .slice (some ⟨g, 0, none⟩) m cap]) h.x 1 _ rfl) 0 _ rfl,
   Kd.R_take (Kd.R_far (Kd.R_far h.r (fun k hk => by subst hk; exact h.ne.1.symm) _) (fun k hk => by subst hk; exact h.ne.1.symm) _) hm,
   blk_far (blk_far h.o (by have := h.ne; simp; omega) _) (by have := h.ne; simp; omega) _, Kd.V_far (Kd.V_far h.v (fun k hk => (h.p k hk).1) _) (fun k hk => (h.p k hk).1) _, h.p,
   ⟨h.ne.1, h.ne.2.1, h.ne.2.2.1, by obtain ⟨u, b, q⟩ := h.q; exact blk_lt (blk_far (blk_far q (by have := h.ne; simp; omega) _) (by have := h.ne; simp; omega) _)⟩,
   by obtain ⟨u, b, q⟩ := h.q; exact ⟨u, b, blk_far (blk_far q (by have := h.ne; simp; omega) _) (by have := h.ne; simp; omega) _⟩⟩
theorem St.o0 (h : St w gx g gw n m cap left A c l a base P) : w.cell? ⟨gw, 0, none⟩ = some (.slice A l.length c) := (blk_cell h.o 0).trans rfl
theorem St.o1 (h : St w gx g gw n m cap left A c l a base P) : w.cell? ⟨gw, 1, none⟩ = some (.int .i64 a) := (blk_cell h.o 1).trans rfl
end
set_option maxHeartbeats 2000000 in
theorem take_yes (k gx g cap : Nat) (n : Int) (left : List ByteArray) (base : Nat) (ok P : Nat → Prop) (A : Option Addr) (c : Nat) (l : List Int) (a i b : Int) (w : World)
    (hB : w.heap[gx]? = some (sideO n (.slice (some ⟨g, 0, none⟩) left.length cap)))
    (hR : Kd.R Kd.string 9 w base ok (.slice (some ⟨g, 0, none⟩) left.length cap) left) (hl : left.length < 4611686018427387904)
    (hW : Kd.V (Kd.int .u64) 23 w w.heap.size P (.slice A l.length c) l) (hP : ∀ k, P k → k ≠ gx ∧ k ≠ g ∧ k < w.heap.size)
    (hD : draw_Below.f k l a (left.length : Int) = some (i, l, b, 0)) (hi0 : 0 ≤ i) (hi : i < left.length) :
    Calls Try.prog 35 #[.pointer (some ⟨gx, 0, none⟩), .agg #[.slice A l.length c, .int .i64 a]] w fun e w' =>
      ∃ v1_ : Value, e = .returned (.tuple #[.string (rdOf ByteArray.empty left i), .agg #[v1_, .int .i64 b], .int .i64 0]) ∧ Kd.V (Kd.int .u64) 23 w' w.heap.size (fun k_ => P k_ ∨ w.heap.size ≤ k_) v1_ l ∧
        w'.heap[gx]? = some (sideO (IntKind.u64.wrap (n - 1)) (.slice (some ⟨g, 0, none⟩) (left.length - 1) cap)) ∧
        Kd.R Kd.string 9 w' base ok (.slice (some ⟨g, 0, none⟩) (left.length - 1) cap) ((left.set i.toNat (rdOf ByteArray.empty left (left.length - 1 : Int))).take (left.length - 1)) ∧
        Kt w w' (fun k => k = gx ∨ k = g) := by
  have hg : g < w.heap.size := Kd.R_lt hR g rfl
  have hgx : gx < w.heap.size := blk_lt hB
  have hne : gx ≠ g := by
    intro e
    subst e
    exact absurd rfl (Kd.R_ne hR hB (by decide))
  have hP2 : ∀ k, P k → k ≠ gx ∧ k ≠ g ∧ k ≠ w.heap.size ∧ k ≠ w.heap.size + 1 := fun k hk => ⟨(hP k hk).1, (hP k hk).2.1, by have := (hP k hk).2.2; omega, by have := (hP k hk).2.2; omega⟩
  have sz1 : (w.alloc (wordsO (.slice A l.length c) a)).heap.size = w.heap.size + 1 := by show (w.heap.push _).size = _; simp
  have sz2 : ((w.alloc (wordsO (.slice A l.length c) a)).alloc (wordsO (.slice none 0 0) 0)).heap.size = w.heap.size + 2 := by show ((w.heap.push _).push _).size = _; simp
  have hb1 : Below w.heap.size w ((w.alloc (wordsO (.slice A l.length c) a)).alloc (wordsO (.slice none 0 0) 0)) := below_alloc (below_alloc (Below.refl _ _) _) _
  have S0 : St ((w.alloc (wordsO (.slice A l.length c) a)).alloc (wordsO (.slice none 0 0) 0)) gx g w.heap.size n left.length cap left A c l a base P :=
    ⟨blk_alloc (blk_alloc hB _) _, Kd.R_alloc (Kd.R_alloc (Kd.R_reok rfl hR (fun k hk => (Option.some.inj hk).symm)) _) _, blk_alloc (Deep.blk_alloc_new w _) _, Kd.V_alloc (Kd.V_alloc hW _) _, hP2, ⟨hne, hgx, hg, by omega⟩,
      ⟨.slice none 0 0, 0, by have := Deep.blk_alloc_new (w.alloc (wordsO (.slice A l.length c) a)) (wordsO (.slice none 0 0) 0); rw [sz1] at this; exact this⟩⟩
  have S0 := Aside0.mk S0
  have HB1 := Aside0.mk hb1
  have SZ := Aside0.mk sz2
  clear hb1 sz1 sz2 hB hW
  go_enter Try.func35, Try.ntmps35
  go_upto_region 1 with (fail)
  obtain ⟨w1, hw1⟩ : ∃ w1, w1 = (w.alloc (wordsO (.slice A l.length c) a)).alloc (wordsO (.slice none 0 0) 0) := ⟨_, rfl⟩
  obtain ⟨gw, hgw⟩ : ∃ gw, gw = w.heap.size := ⟨_, rfl⟩
  rw [← hw1] at S0 HB1 SZ
  change Code.wp _ _ _ _ ((w.alloc (wordsO (.slice A l.length c) a)).alloc (wordsO (.slice none 0 0) 0))
  rw [← hw1, ← hgw]
  rw [← hgw] at S0 SZ
  clear hw1
  have HG := Aside0.mk hgw
  clear hgw
  have hlw : IntKind.u64.wrap (left.length : Int) = (left.length : Int) := by rw [IntKind.wrap_u64]; omega
  have hu32 := Try.underlying32
  go_cut [7, 8] (fun v7 v8 wc => ∃ (A2 : Option Addr) (c2 : Nat), v7 = .int .u64 i ∧ v8 = .int .i64 0 ∧ Aside0 (St wc gx g gw n left.length cap left A2 c2 l b base (fun k => P k ∨ gw + 1 < k)) ∧ Aside0 (Below w.heap.size w wc))
  case first =>
    have hx1 := S0.out.x1
    have ho0 := S0.out.o0
    have ho1 := S0.out.o1
    have S1 := Aside0.mk (S0.out.below (below_drew (Below.refl _ _)))
    have HB1' := Aside0.mk (below_drew1 HB1.out)
    go_region_with (first | (go_at_call 23; (refine (draw_Below.calls k P A c l a (left.length : Int) i l b 0 _ ?s1 hD).mono ?_); (case s1 => exact S1.out.v); rintro e w2 ⟨v1, rfl, hV2, hb2⟩; obtain ⟨A2, c2, rfl⟩ := Kd.V_slice hV2; have S2 := Aside0.mk (S1.out.below hb2); have HB2 := Aside0.mk (below_step HB1'.out hb2); have HV2 := Aside0.mk hV2; clear hV2 hb2; have ho0 := S2.out.o0; have ho1 := S2.out.o1; have hf0 := S2.out.of 0; have hf1 := S2.out.of 1; have hx1 := S2.out.x1))
    all_goals
      go_wp2
      go_meet
      have hle : w.heap.size ≤ gw := Nat.le_of_eq HG.out.symm
      case rel =>
        exact ⟨A2, c2, rfl, rfl, ⟨S2.out.put (Kd.V_mono HV2.out (fun k hk => hk.imp id (fun h => by have h2 : w1.heap.size ≤ k := h; have := SZ.out; omega)))
          (fun k hk => hk.elim (fun h => S0.out.p k h) (fun h => by have := S0.out.ne; omega))⟩, ⟨below_set (below_set HB2.out hle) (Nat.le_of_eq HG.out.symm)⟩⟩
  case rest =>
    obtain ⟨A2, c2, rfl, rfl, S4, HB4⟩ := hcut
    obtain ⟨z, hz⟩ : ∃ z : Int, z = (left.length : Int) - 1 := ⟨_, rfl⟩
    have hw : IntKind.i64.wrap ((left.length : Int) - 1) = z := by rw [IntKind.wrap_i64]; omega
    have hz0 : 0 ≤ z := by omega
    have hz1 : z < (left.length : Int) := by omega
    have HZ := Aside0.mk hz
    clear hz
    have hx1 := S4.out.x1
    have hci := (Kd.R_celln ByteArray.empty S4.out.r i hi0 hi).1
    have hcl := (Kd.R_celln ByteArray.empty S4.out.r z hz0 hz1).1
    have hff := (Kd.R_celln ByteArray.empty S4.out.r i hi0 hi).2
    go_wp2_with (fail)
    go_still (by kernel_rfl)
    rw [show ({ heap := wc.heap, tape := wc.tape, drawn := wc.drawn + 1, os := wc.os, output := wc.output } : World) = wc.drew from rfl]
    have S5 := Aside0.mk (S4.out.below (below_drew (Below.refl _ _)))
    have HB5 := Aside0.mk (below_drew1 HB4.out)
    have K5 := Aside0.mk (Kt.of_below HB5.out (fun k => k = gx ∨ k = g))
    clear S4 HB4 hx1 hci hcl hff HB5
    generalize wc.drew = w5 at *
    have hx1 := S5.out.x1
    have hci := (Kd.R_celln ByteArray.empty S5.out.r i hi0 hi).1
    have hcl := (Kd.R_celln ByteArray.empty S5.out.r z hz0 hz1).1
    have hff := (Kd.R_celln ByteArray.empty S5.out.r i hi0 hi).2
    go_wp2_with (fail)
    go_still_tail 13, (by kernel_rfl)
    change wpList _ _ _ _ _ w5.drew
    have S6 := Aside0.mk (S5.out.below (below_drew (Below.refl _ _)))
    have K6 := Aside0.mk (Kt.drew K5.out)
    clear S5 K5 hx1 hci hcl hff
    generalize w5.drew = w6 at *
    have hci := (Kd.R_celln ByteArray.empty S6.out.r i hi0 hi).1
    have hff := (Kd.R_celln ByteArray.empty S6.out.r i hi0 hi).2
    go_wp2_with (fail)
    have S7 := Aside0.mk (S6.out.store i (rdOf ByteArray.empty left z))
    have K7 := Aside0.mk (Kt.setCell K6.out (p := ⟨g, i.toNat, none⟩) (.inl (.inr rfl)) (.string (rdOf ByteArray.empty left z)))
    clear S6 K6 hci hff
    generalize w6.setCell ⟨g, i.toNat, none⟩ (.string (rdOf ByteArray.empty left z)) = w7 at *
    go_cut [9] (fun v9 wc => v9 = .string (rdOf ByteArray.empty left i) ∧ Aside0 (St wc gx g gw (IntKind.u64.wrap (n - 1)) z.toNat cap ((left.set i.toNat (rdOf ByteArray.empty left z)).take z.toNat) A2 c2 l b base (fun k => P k ∨ gw + 1 < k)) ∧ Aside0 (Kt w wc (fun k => k = gx ∨ k = g)))
    case first =>
      have hx0 := S7.out.x0
      have hx1 := S7.out.x1
      have hf0 := S7.out.xf 0
      have hf1 := S7.out.xf 1
      have hzc : z ≤ (cap : Int) := by have := (Kd.R_reads' hR).2.1; omega
      have hzt : ((z.toNat : Nat) : Int) = z := Int.toNat_of_nonneg hz0
      have S8 := Aside0.mk (S7.out.below (below_drew (Below.refl _ _)))
      have K8 := Aside0.mk (Kt.drew K7.out)
      go_region_with (fail)
      all_goals
        go_wp2
        go_meet
        case rel =>
          exact ⟨rfl, ⟨(S7.out.cut _ _ (by rw [List.length_set]; omega)).below (below_drew (Below.refl _ _))⟩, ⟨Kt.drew (Kt.setCell (Kt.setCell K7.out (.inl (.inl rfl)) _) (.inl (.inl rfl)) _)⟩⟩
    case rest =>
      obtain ⟨rfl, S9, K9⟩ := hcut
      obtain ⟨u9, b9, q9⟩ := S9.out.q
      have ho0 := S9.out.o0
      have ho1 := S9.out.o1
      have hq0 : wc.cell? ⟨gw + 1, 0, none⟩ = some u9 := (blk_cell q9 0).trans rfl
      have hq1 : wc.cell? ⟨gw + 1, 1, none⟩ = some (.int .i64 b9) := (blk_cell q9 1).trans rfl
      have hqf0 := blk_frozen q9 0
      have hqf1 := blk_frozen q9 1
      have Q9 := Aside0.mk q9
      clear q9
      go_wp2
      go_region_with (fail)
      all_goals
        go_wp2
        have hqd := blk_drew Q9.out
        refine bodyPost_ret (results_list (rs := [.tmp 4, .cell 5 32, .tmp 6]) rfl (by simp) (.tmp (.cell (gw + 1) 32 #[.slice A2 l.length c2, .int .i64 b] (0, 0) _ rfl (by
          refine blk_put (cs := #[.slice A2 l.length c2, .int .i64 b9]) (blk_put (cs := #[u9, .int .i64 b9]) ?_ 0 _ rfl) 1 _ rfl
          first | exact Q9.out | exact hqd) Try.underlying32 rfl (by kernel_rfl) (.tmp .nil)))) rfl ?_
        have hgw : w.heap.size ≤ gw := Nat.le_of_eq HG.out.symm
        have hzn : z.toNat = left.length - 1 := by have := HZ.out; omega
        have hzz : z = (left.length : Int) - 1 := HZ.out
        have S10 := S9.out.below (below_drew (Below.refl _ _))
        have hx := S10.x
        have hr := S10.r
        have hv := S10.v
        rw [hzn] at hx hr
        rw [hzz] at hr
        refine ⟨_, rfl, ?_, ?_, ?_, ?_⟩
        · exact Kd.V_mono (Kd.V_far (Kd.V_far hv (fun k hk => (S10.p k hk).2.2.2) _) (fun k hk => (S10.p k hk).2.2.2) _) (fun k hk => hk.imp id (fun h => by omega))
        · exact blk_far (blk_far hx (by have := S10.ne; simp; omega) _) (by have := S10.ne; simp; omega) _
        · exact Kd.R_reok rfl (Kd.R_far (Kd.R_far hr (fun k hk => by subst hk; have := S10.ne; simp; omega) _) (fun k hk => by subst hk; have := S10.ne; simp; omega) _) (fun k hk => hR.1 k hk)
        · exact Kt.setCell (Kt.setCell (Kt.drew K9.out) (.inr (by simp; omega)) _) (.inr (by simp; omega)) _
end Go.Proofs.Ythgacimoifbhiaa
