import Derived.Test.YtobdhjnaglikaaaRd
namespace Go.Proofs.Ytobdhjnaglikaaa
open Go.RowKit Go.Proofs.YtobdhjnaglikaaaW.PrintWords Go.Proofs.YtobdhjnaglikaaaW.PrintLast
set_option linter.unusedVariables false
set_option linter.unusedSimpArgs false
attribute [local go_sem] run_store_zero at0_new at0_next at0_old at0_old2 at0_row at0_old_row at0_drew
abbrev boxO (f : Nat → Nat) : Obj := .cells (dA f 16) 70 (0, 0)
theorem dA16_zero (w : World) : (zeroValue 70).run Try.prog w = .ok (.agg (dA (fun _ => 0) 16)) w := by
 have e : dA (fun _ => 0) 16 = Array.replicate 16 (.int .u64 0) := by
  unfold dA; apply Array.ext <;> simp
 rw [e]; exact (by kernel_rfl : (zeroValue 70).run Try.prog w = .ok (.agg (Array.replicate 16 (.int .u64 0))) w)
theorem w64m {x y m : Nat} (h : m = x * y) (hm : m < 18446744073709551616) : IntKind.u64.wrap ((x : Int) * (y : Int)) = (m : Int) := by
 rw [← Int.natCast_mul, ← h]; exact u64w m hm
theorem i64s {x y m : Nat} (h : m = x + y) (hm : m < 9223372036854775808) : IntKind.i64.wrap ((x : Int) + (y : Int)) = (m : Int) := by
 rw [← Int.natCast_add, ← h, IntKind.wrap_i64]; omega
theorem mulD_next {P Q C i k c x o y : Nat} (h : Q / 65536 ^ (i + k) = P / 65536 ^ (i + k) + x * (C / 65536 ^ k) + c) (hx : x < 65536) (hc : c < 65536) (vo : o = Dg.D P (i + k)) (vy : y = Dg.D C k) :
  ∃ m1 m2 n r q : Nat, IntKind.u64.wrap ((x : Int) * (y : Int)) = (m1 : Int) ∧ IntKind.u64.wrap ((o : Int) + (m1 : Int)) = (m2 : Int) ∧ IntKind.u64.wrap ((m2 : Int) + (c : Int)) = (n : Int) ∧ (n : Int) % 65536 = (r : Int) ∧ IntKind.u64.wrap ((n : Int) / 65536) = (q : Int) ∧
   r = Dg.D Q (i + k) ∧ Q / 65536 ^ (i + (k + 1)) = P / 65536 ^ (i + (k + 1)) + x * (C / 65536 ^ (k + 1)) + q ∧ q < 65536 := by
 obtain ⟨e1, e2, e3, e4⟩ := Dg.mul_step h hx hc
 rw [show i + (k + 1) = i + k + 1 from rfl, Dg.div_succ, Dg.div_succ, Dg.div_succ]
 unfold Dg.D at vo vy ⊢
 rw [← vo, ← vy] at e1 e2 e3 e4
 generalize Q / 65536 ^ (i + k) = s at *
 generalize P / 65536 ^ (i + k) = a at *
 generalize C / 65536 ^ k = b at *
 obtain ⟨n, hn⟩ : ∃ n, n = o + x * y + c := ⟨_, rfl⟩
 rw [← hn] at e1 e2 e3 e4
 obtain ⟨m1, hm1⟩ : ∃ m1, m1 = x * y := ⟨_, rfl⟩
 refine ⟨m1, o + m1, n, s % 65536, n / 65536, w64m hm1 (by omega), w64s rfl (by omega), w64s (by omega) (by omega), by omega, ?_, rfl, e2, e3⟩
 rw [IntKind.wrap_u64]; omega
theorem low_same (P x C : Nat) {i j : Nat} (h : j < i) : Dg.D (P + x * 65536 ^ i * C) j = Dg.D P j := by
 obtain ⟨d, rfl⟩ : ∃ d, i = j + (d + 1) := ⟨i - j - 1, by omega⟩
 unfold Dg.D
 have hp : 0 < 65536 ^ j := Nat.pos_of_ne_zero (by simp)
 rw [show x * 65536 ^ (j + (d + 1)) * C = 65536 ^ j * (65536 * (65536 ^ d * x * C)) by rw [Nat.pow_add, Nat.pow_succ]; ac_rfl, Nat.add_mul_div_left _ _ hp, Nat.add_mul_mod_self_left]
theorem low_turn {i : Nat} {F G : Nat → Nat} (h : ∀ j, j < i → G j = F j) (j : Nat) : F j = if j < i + 0 then G j else F j := by
 by_cases e : j < i
 ·
  rw [if_pos (show j < i + 0 from e), h j e]
 ·
  rw [if_neg (show ¬ j < i + 0 from e)]
theorem mul_start (P x C i : Nat) : (P + x * 65536 ^ i * C) / 65536 ^ (i + 0) = P / 65536 ^ (i + 0) + x * (C / 65536 ^ 0) + 0 := by
 rw [Nat.add_zero, Nat.pow_zero, Nat.div_one]; exact Dg.mul_first P x C i
structure MuA (w wr : World) (s g5 g6 g8 : Nat) (A C : Nat) (F : Nat → Nat) : Prop where
 x : ∃ f, wr.heap[g5]? = some (boxA f) ∧ ∀ j, j < 8 → f j = Dg.D A j
 y : ∃ f, wr.heap[g6]? = some (boxA f) ∧ ∀ j, j < 8 → f j = Dg.D C j
 o : ∃ f, wr.heap[g8]? = some (boxO f) ∧ ∀ j, j < 16 → f j = F j
 r : wr.heap[s + 1 + 1]? = some (box2 0 0)
 b : Below w.heap.size w wr
section
variable {w wr : World} {s g5 g6 g8 A C : Nat} {F : Nat → Nat} (t : MuA w wr s g5 g6 g8 A C F)
include t
theorem MuA.put (h5 : g5 < g8) (h6 : g6 < g8) (hs8 : s + 1 + 1 < g8) (hs : s = w.heap.size) (k v : Nat) (F' : Nat → Nat) (hF : ∀ j, j < 16 → (if j = k then v else F j) = F' j) :
  MuA w (wr.setCell ⟨g8, k, none⟩ (.int .u64 (v : Int))) s g5 g6 g8 A C F' := by
 obtain ⟨f, hx, hf⟩ := t.x
 obtain ⟨f', hy, hf'⟩ := t.y
 obtain ⟨fo, ho, hfo⟩ := t.o
 refine ⟨⟨f, blk_far hx (by dsimp only; omega) _, hf⟩, ⟨f', blk_far hy (by dsimp only; omega) _, hf'⟩, ⟨upd fo k v, blk_put ho k _ (dA_set fo 16 k v), fun j hj => ?_⟩, blk_far t.r (by dsimp only; omega) _, bset t.b _ (by dsimp only; omega)⟩
 rw [← hF j hj]; unfold upd; split
 ·
  rfl
 ·
  exact hfo j hj
theorem MuA.drew : MuA w wr.drew s g5 g6 g8 A C F := ⟨t.x, t.y, t.o, t.r, bd t.b⟩
theorem MuA.turn {F' : Nat → Nat} (hF : ∀ j, j < 16 → F j = F' j) : MuA w wr s g5 g6 g8 A C F' :=
 ⟨t.x, t.y, t.o.elim fun f h => ⟨f, h.1, fun j hj => (h.2 j hj).trans (hF j hj)⟩, t.r, t.b⟩
end
theorem MuA.up {w wr : World} {s g5 g6 g8 A C : Nat} {F : Nat → Nat} (t : MuA w wr s g5 g6 g8 A C F) (o : Obj) : MuA w (wr.alloc o) s g5 g6 g8 A C F :=
 ⟨t.x.elim fun f h => ⟨f, blk_alloc h.1 o, h.2⟩, t.y.elim fun f h => ⟨f, blk_alloc h.1 o, h.2⟩, t.o.elim fun f h => ⟨f, blk_alloc h.1 o, h.2⟩, blk_alloc t.r o, ba t.b o⟩
structure LoA (w wr : World) (s g5 g6 g8 g13 : Nat) (A C : Nat) (F L : Nat → Nat) : Prop where
 a : MuA w wr s g5 g6 g8 A C F
 l : ∃ f, wr.heap[g13]? = some (boxA f) ∧ ∀ j, j < 8 → f j = L j
theorem LoA.put {w wr : World} {s g5 g6 g8 g13 A C : Nat} {F L : Nat → Nat} (t : LoA w wr s g5 g6 g8 g13 A C F L) (h8 : g8 < g13) (hs8 : s + 1 + 1 < g13) (h5 : g5 < g13) (h6 : g6 < g13) (hs : s = w.heap.size) (k v : Nat) (L' : Nat → Nat) (hF : ∀ j, j < 8 → (if j = k then v else L j) = L' j) :
  LoA w (wr.setCell ⟨g13, k, none⟩ (.int .u64 (v : Int))) s g5 g6 g8 g13 A C F L' := by
 obtain ⟨f, hx, hf⟩ := t.a.x
 obtain ⟨f', hy, hf'⟩ := t.a.y
 obtain ⟨fo, ho, hfo⟩ := t.a.o
 obtain ⟨fl, hl, hfl⟩ := t.l
 refine ⟨⟨⟨f, blk_far hx (by dsimp only; omega) _, hf⟩, ⟨f', blk_far hy (by dsimp only; omega) _, hf'⟩, ⟨fo, blk_far ho (by dsimp only; omega) _, hfo⟩, blk_far t.a.r (by dsimp only; omega) _, bset t.a.b _ (by dsimp only; omega)⟩, ⟨upd fl k v, blk_put hl k _ (dA_set fl 8 k v), fun j hj => ?_⟩⟩
 rw [← hF j hj]; unfold upd; split
 ·
  rfl
 ·
  exact hfl j hj
theorem fill16 (F G : Nat → Nat) (k : Nat) (j : Nat) (hj : j < 16) : (if j = k then G k else if j < k then G j else F j) = if j < k + 1 then G j else F j := by
 by_cases e : j = k
 ·
  rw [if_pos e, if_pos (by omega), e]
 ·
  rw [if_neg e]
  by_cases e2 : j < k
  ·
   rw [if_pos e2, if_pos (by omega)]
  ·
   rw [if_neg e2, if_neg (by omega)]
theorem fill_last {P Q x C c i : Nat} (h : Q / 65536 ^ (i + 8) = P / 65536 ^ (i + 8) + x * (C / 65536 ^ 8) + c) (hP : P < 65536 ^ (i + 8)) (hC : C < 65536 ^ 8) (hc : c < 65536) :
  (∀ j, j < 16 → (if j = i + 8 then c else if j < i + 8 then Dg.D Q j else Dg.D P j) = Dg.D Q j) ∧ Q < 65536 ^ (i + 1 + 8) := by
 obtain ⟨h1, h2⟩ := Dg.mul_last h hP hC hc
 refine ⟨fun j hj => ?_, h2⟩
 by_cases e : j = i + 8
 ·
  rw [if_pos e, e, h1]
 ·
  rw [if_neg e]
  by_cases e2 : j < i + 8
  ·
   rw [if_pos e2]
  ·
   rw [if_neg e2, Dg.small_D hP (by omega), Dg.small_D h2 (by omega)]
set_option maxRecDepth 100000 in
set_option maxHeartbeats 8000000 in
theorem mulD_any (ah al bh bl : Nat) (h1 : W64 ah) (h2 : W64 al) (h3 : W64 bh) (h4 : W64 bl) (w : World) (rh rl : Nat) (ok : Bool)
  (hr : if V ah al * V bh bl < 340282366920938463463374607431768211456 then ok = true ∧ rh = HI (V ah al * V bh bl) ∧ rl = LO (V ah al * V bh bl) else ok = false ∧ rh = 0 ∧ rl = 0) :
  Calls Try.prog 47 #[U ah al, U bh bl] w fun e w' => e = .returned (.tuple #[U rh rl, .bool ok]) ∧ Below w.heap.size w w' := by
 have dA5 := Lib.hid (fun j (hj : j < 8) => dgA_V ah al j h2 hj)
 have dA6 := Lib.hid (fun j (hj : j < 8) => dgA_V bh bl j h4 hj)
 have tA := Lib.hid (show V ah al < 65536 ^ 8 from V_lt9 h1 h2)
 have tB := Lib.hid (show V bh bl < 65536 ^ 8 from V_lt9 h3 h4)
 generalize V ah al = A at *
 generalize V bh bl = C at *
 have HR := Lib.hid hr
 clear hr
 have F1 := Lib.hid (digits_any ah al h1 h2)
 have F2 := Lib.hid (digits_any bh bl h3 h4)
 have hz := dA8_zero
 go_enter Try.func47, Try.ntmps47
 go_upto_region 1 with (fail)
 obtain ⟨w0, hw0⟩ : ∃ w0, w0 = ((w.alloc (box2 ah al)).alloc (box2 bh bl)).alloc (box2 0 0) := ⟨_, rfl⟩
 obtain ⟨s, hs⟩ : ∃ s, s = w.heap.size := ⟨_, rfl⟩
 have B0 := Aside0.mk (show Below w.heap.size w w0 by rw [hw0]; exact ba (ba (ba (Below.refl _ _) _) _) _)
 have A0 := Aside0.mk (show w0.heap[s]? = some (box2 ah al) by rw [hw0, hs]; exact heap3_old _ _ _ _)
 have A1 := Aside0.mk (show w0.heap[s + 1]? = some (box2 bh bl) by rw [hw0, hs]; exact heap3_mid _ _ _ _)
 have A2 := Aside0.mk (show w0.heap[s + 1 + 1]? = some (box2 0 0) by rw [hw0, hs]; exact heap3_new _ _ _ _)
 change Code.wp _ _ _ _ (((w.alloc (box2 ah al)).alloc (box2 bh bl)).alloc (box2 0 0))
 rw [← hw0, ← hs]
 have HS := Lib.hid hs
 clear hw0 hs
 have a0 : w0.cell? ⟨s, 0, none⟩ = some (.int .u64 (ah : Int)) := (blk_cell A0.out 0).trans rfl
 have a1 : w0.cell? ⟨s, 1, none⟩ = some (.int .u64 (al : Int)) := (blk_cell A0.out 1).trans rfl
 have b0 : w0.cell? ⟨s + 1, 0, none⟩ = some (.int .u64 (bh : Int)) := (blk_cell A1.out 0).trans rfl
 have b1 : w0.cell? ⟨s + 1, 1, none⟩ = some (.int .u64 (bl : Int)) := (blk_cell A1.out 1).trans rfl
 have B9 := Aside0.mk (Below.refl w0.heap.size w0)
 have K0 := Lib.hid (keepAB A0.out A1.out)
 go_cut [6, 7] (fun v5 v6 wc => ∃ g5 g6 : Nat, v5 = .pointer (some ⟨g5, 0, none⟩) ∧ v6 = .pointer (some ⟨g6, 0, none⟩) ∧ Aside0 (wc.heap[g5]? = some (boxA (dgA ah al 4)) ∧ wc.heap[g6]? = some (boxA (dgA bh bl 4)) ∧ g5 ≠ g6 ∧ w0.heap.size ≤ g5 ∧ w0.heap.size ≤ g6 ∧ Below w0.heap.size w0 wc))
 case first =>
  go_region_held3 (fun w' => w'.cell? ⟨s, 0, none⟩ = some (.int .u64 (ah : Int)) ∧ w'.cell? ⟨s, 1, none⟩ = some (.int .u64 (al : Int)) ∧ w'.cell? ⟨s + 1, 0, none⟩ = some (.int .u64 (bh : Int)) ∧ w'.cell? ⟨s + 1, 1, none⟩ = some (.int .u64 (bl : Int)) ∧ Below w0.heap.size w0 w')
   ((refine K0.out _ ?_; repeat (with_reducible first | assumption | exact B9.out | exact B1.out | exact B2.out | apply below_alloc | apply below_drew1 | refine below_setRow ?_ ?_ _ | exact Nat.le_refl _ | exact Nat.le_succ _ | exact B1.out.size | exact B2.out.size | exact Nat.le_succ_of_le B1.out.size | exact Nat.le_succ_of_le B2.out.size)))
   (first
    | (go_at_call_of 46 (Value.agg #[Value.int IntKind.u64 (ah : Int), Value.int IntKind.u64 (al : Int)]); refine (F1.out _).mono ?_; rintro e w1 ⟨rfl, hb1⟩; have Z1 := Lib.hid (fun (k : Nat) (o : Obj) h => blk_below (g := k) (o := o) h hb1); have B1 := Aside0.mk (below_step (by repeat (with_reducible first | assumption | exact B9.out | apply below_alloc | apply below_drew1) : Below w0.heap.size w0 _) hb1); clear hb1; (first | (have qA : At0 w1 w0.heap.size := Z1.out _ _ (blk_new _ _)) | (have qA : At0 w1 w0.heap.size := Z1.out _ _ (heap_alloc2_old _ _ _)) | skip); (first | (have qB : At0 w1 (w0.heap.size + 1) := Z1.out _ _ (heap_alloc2_new _ _ _)) | skip); (try (have nA := Nat.ne_of_lt (blk_lt qA); have nA' := Ne.symm nA)); (try (have nB := Nat.ne_of_lt (blk_lt qB); have nB' := Ne.symm nB)))
    | (go_at_call_of 46 (Value.agg #[Value.int IntKind.u64 (bh : Int), Value.int IntKind.u64 (bl : Int)]); refine (F2.out _).mono ?_; rintro e w2 ⟨rfl, hb2⟩; have Z2 := Lib.hid (fun (k : Nat) (o : Obj) h => blk_below (g := k) (o := o) h hb2); have B2 := Aside0.mk (below_step (by repeat (with_reducible first | assumption | exact B1.out | apply below_alloc | apply below_drew1) : Below w0.heap.size w0 _) hb2); clear hb2; (first | (have qA2 : At0 w2 w0.heap.size := Z2.out _ _ qA) | (have qA2 : At0 w2 w0.heap.size := Z2.out _ _ (blk_alloc qA _)) | skip); (first | (have qB2 : At0 w2 (w0.heap.size + 1) := Z2.out _ _ qB) | skip); (first | (have qC2 : At0 w2 w1.heap.size := Z2.out _ _ (blk_new _ _)) | (have qC2 : At0 w2 w1.heap.size := Z2.out _ _ (heap_alloc2_old _ _ _)) | skip); (first | (have qD2 : At0 w2 (w1.heap.size + 1) := Z2.out _ _ (heap_alloc2_new _ _ _)) | skip); (try (have nA2 := Nat.ne_of_lt (blk_lt qA2); have nA2' := Ne.symm nA2)); (try (have nB2 := Nat.ne_of_lt (blk_lt qB2); have nB2' := Ne.symm nB2)); (try (have nC2 := Nat.ne_of_lt (blk_lt qC2); have nC2' := Ne.symm nC2)); (try (have nD2 := Nat.ne_of_lt (blk_lt qD2); have nD2' := Ne.symm nD2))))
  all_goals
   go_wp2
   go_meet
  all_goals
   refine ⟨_, _, rfl, rfl, fin2 ?_ ?_ ?_ ?_ ?_ ?_⟩
   ·
    first | assumption | exact at0_new _ | exact at0_next _ _ | exact at0_old2 _ _ | exact at0_old (by assumption) _
   ·
    first | assumption | exact at0_new _ | exact at0_next _ _ | exact at0_old2 _ _ | exact at0_old (by assumption) _
   ·
    first | assumption | exact Nat.succ_ne_self _ | exact Ne.symm (Nat.succ_ne_self _)
   ·
    first | exact B2.out | exact below_alloc B2.out _ | exact below_alloc (below_alloc B2.out _) _
   ·
    first | exact Nat.le_refl _ | exact Nat.le_succ _ | exact B1.out.size | exact B2.out.size | exact Nat.le_succ_of_le B1.out.size | exact Nat.le_succ_of_le B2.out.size
   ·
    first | exact Nat.le_refl _ | exact Nat.le_succ _ | exact B1.out.size | exact B2.out.size | exact Nat.le_succ_of_le B1.out.size | exact Nat.le_succ_of_le B2.out.size
 case rest =>
  obtain ⟨g5, g6, rfl, rfl, hA⟩ := hcut
  have hz16 := dA16_zero
  obtain ⟨g8, hg8⟩ : ∃ g8, g8 = wc.heap.size := ⟨_, rfl⟩
  have T := Aside0.mk (show MuA w (wc.alloc (boxO (fun _ => 0))) s g5 g6 g8 A C (fun _ => 0) from ⟨⟨_, blk_alloc hA.out.1 _, dA5.out⟩, ⟨_, blk_alloc hA.out.2.1 _, dA6.out⟩, ⟨_, by rw [hg8]; exact blk_new _ _, fun _ _ => rfl⟩, blk_alloc (blk_below A2.out hA.out.2.2.2.2.2) _, ba (below_step B0.out hA.out.2.2.2.2.2) _⟩)
  have G := Lib.hid (show g5 < g8 ∧ g6 < g8 ∧ s + 1 + 1 < g8 from ⟨by rw [hg8]; exact blk_lt hA.out.1, by rw [hg8]; exact blk_lt hA.out.2.1, by rw [hg8]; exact blk_lt (blk_below A2.out hA.out.2.2.2.2.2)⟩)
  clear hA B9 K0 F1 F2 A0 A1 A2 a0 a1 b0 b1 B0 dA5 dA6
  go_upto_region 3 with (fail)
  obtain ⟨w1, hw1⟩ : ∃ w1, w1 = wc.alloc (boxO (fun _ => 0)) := ⟨_, rfl⟩
  rw [← hw1] at T
  change Code.wp _ _ _ _ (wc.alloc (boxO (fun _ => 0)))
  rw [← hw1, ← hg8]
  clear hw1 hg8 hz16
  go_wp2
  go_loopw [9] (fun i wr => ∃ k : Nat, k ≤ 8 ∧ i = .int .i64 (k : Int) ∧ Aside0 (MuA w wr s g5 g6 g8 A C (Dg.D ((A % 65536 ^ k) * C)) ∧ (A % 65536 ^ k) * C < 65536 ^ (k + 8))) (fun i _ => 8 - (intOf i).toNat)
  case atStart => exact ⟨0, Nat.zero_le _, rfl, ⟨T.out.turn (fun j _ => by rw [Nat.pow_zero, Nat.mod_one, Nat.zero_mul, Dg.D_zero]), by rw [Nat.pow_zero, Nat.mod_one, Nat.zero_mul]; exact Nat.pos_of_ne_zero (by simp)⟩⟩
  case round =>
   obtain ⟨i, hi, rfl, hR⟩ := hrel
   clear T
   by_cases hlt : i < 8
   ·
    have hb : decide ((i : Int) < 8) = true := decide_eq_true (by omega)
    have hi8 : (i : Int) < 8 := by omega
    have HP := Lib.hid hR.out.2
    have HQ := Lib.hid (Dg.mul_next A C i)
    have T := Aside0.mk hR.out.1
    have lx := Lib.hid (Dg.D_lt A i)
    have dx := Lib.hid (show ∀ wr F, MuA w wr s g5 g6 g8 A C F → wr.cell? ⟨g5, i, none⟩ = some (.int .u64 ((Dg.D A i : Nat) : Int)) from fun wr F t => by
     obtain ⟨f, h, hf⟩ := t.x
     exact (blk_cell h i).trans ((dA_get f 8 i hlt).trans (by rw [hf i hlt])))
    clear hR
    generalize Dg.D A i = x at *
    generalize (A % 65536 ^ i) * C = P at *
    obtain ⟨Q, hQ⟩ : ∃ Q, Q = P + x * 65536 ^ i * C := ⟨_, rfl⟩
    have hst := Lib.hid (mul_start P x C i)
    rw [← hQ] at HQ hst
    have HLO := Lib.hid (show ∀ j, j < i → Dg.D Q j = Dg.D P j from fun j hj => by rw [hQ]; exact low_same P x C hj)
    clear hQ
    go_wp2
    go_loopw [10, 11] (fun o j wr => ∃ k c : Nat, k ≤ 8 ∧ c < 65536 ∧ o = .int .u64 (c : Int) ∧ j = .int .i64 (k : Int) ∧ Aside0 (MuA w wr s g5 g6 g8 A C (fun j => if j < i + k then Dg.D Q j else Dg.D P j) ∧ Q / 65536 ^ (i + k) = P / 65536 ^ (i + k) + x * (C / 65536 ^ k) + c)) (fun o j _ => 8 - (intOf j).toNat)
    case atStart => exact ⟨0, 0, by omega, by omega, rfl, rfl, ⟨T.out.turn (fun j hj => low_turn HLO.out j), hst.out⟩⟩
    case round =>
     obtain ⟨k, c, hk, hc, rfl, rfl, hR⟩ := hrel
     clear T
     by_cases hlt2 : k < 8
     ·
      have hb2 : decide ((k : Int) < 8) = true := decide_eq_true (by omega)
      have hk8 : (k : Int) < 8 := by omega
      obtain ⟨fo, ho, hfo⟩ := hR.out.1.o
      obtain ⟨fy, hy, hfy⟩ := hR.out.1.y
      have vo : fo (i + k) = Dg.D P (i + k) := by rw [hfo (i + k) (by omega), if_neg (Nat.lt_irrefl _)]
      have vy : fy k = Dg.D C k := hfy k hlt2
      obtain ⟨m1, m2, n, r, q, w1, w2, w3, w4, w5, e1, e2, e3⟩ := mulD_next hR.out.2 lx.out hc vo vy
      obtain ⟨z, hz0⟩ : ∃ z, z = i + k := ⟨_, rfl⟩
      have w6 : IntKind.i64.wrap ((i : Int) + (k : Int)) = (z : Int) := i64s hz0 (by omega)
      have hz8 : (z : Int) < 16 := by omega
      rw [← hz0] at w2
      have c5 : wr.cell? ⟨g5, i, none⟩ = some (.int .u64 (x : Int)) := dx.out wr _ hR.out.1
      have c6 : wr.cell? ⟨g6, k, none⟩ = some (.int .u64 ((fy k : Nat) : Int)) := (blk_cell hy k).trans (dA_get fy 8 k hlt2)
      have c8 : wr.cell? ⟨g8, z, none⟩ = some (.int .u64 ((fo z : Nat) : Int)) := (blk_cell ho z).trans (dA_get fo 16 z (by omega))
      have f8 := blk_frozen ho z
      have HT := Lib.hid hR.out.1
      have E1 := Lib.hid e1
      have E2 := Lib.hid e2
      have E3 := Lib.hid e3
      have Ez := Lib.hid hz0
      generalize fo z = o at c8 w2
      generalize fy k = y at c6 w1
      clear ho hfo hy hfy hR vo vy e1 e2 e3 hz0
      go_wp2
      go_still (by kernel_rfl)
      go_wp2
      go_roundw
      case rel =>
       clear w1 w2 w3 w4 w5 w6 hb hb2 hk8 hz8
       exact ⟨k + 1, q, hlt2, E3.out, rfl, by go_num, ⟨(HT.out.put G.out.1 G.out.2.1 G.out.2.2 HS.out z r _ (by rw [E1.out, Ez.out]; exact fill16 _ _ (i + k))).drew, E2.out⟩⟩
      case measure => clear w1 w2 w3 w4 w5 w6 hb hb2; simp [intOf]; omega
     ·
      obtain rfl : k = 8 := by omega
      obtain ⟨fo, ho, hfo⟩ := hR.out.1.o
      obtain ⟨z, hz0⟩ : ∃ z, z = i + 8 := ⟨_, rfl⟩
      have w6 : IntKind.i64.wrap ((i : Int) + 8) = (z : Int) := i64s (y := 8) hz0 (by omega)
      have hz8 : (z : Int) < 16 := by omega
      have c8 : wr.cell? ⟨g8, z, none⟩ = some (.int .u64 ((fo z : Nat) : Int)) := (blk_cell ho z).trans (dA_get fo 16 z (by omega))
      have f8 := blk_frozen ho z
      generalize fo z = o at c8
      have Ez := Lib.hid hz0
      have HT := Lib.hid hR.out.1
      have HF := Lib.hid (fill_last hR.out.2 HP.out tB.out hc)
      clear ho hfo hR hz0
      go_wp2
      go_roundw
      case rel =>
       clear w6 hb hz8
       exact ⟨i + 1, hlt, by go_num, ⟨by rw [HQ.out]; exact HT.out.put G.out.1 G.out.2.1 G.out.2.2 HS.out z c _ (by rw [Ez.out]; exact HF.out.1), by rw [HQ.out]; exact HF.out.2⟩⟩
      case measure => clear w6 hb; simp [intOf]; omega
   ·
    obtain rfl : i = 8 := by omega
    have T := Aside0.mk hR.out.1
    have hP := Lib.hid (show (A % 65536 ^ 8) * C < 65536 ^ (8 + 8) from hR.out.2)
    have eP : (A % 65536 ^ 8) * C = A * C := Dg.mul_all tA.out
    rw [eP] at T hP
    clear hR eP
    generalize A * C = P at *
    obtain ⟨g13, hg13⟩ : ∃ g, g = wr.heap.size := ⟨_, rfl⟩
    have T2 := Aside0.mk (show LoA w (wr.alloc (boxA (fun _ => 0))) s g5 g6 g8 g13 A C (Dg.D P) (fun _ => 0) from ⟨T.out.up _, ⟨_, by rw [hg13]; exact blk_new _ _, fun _ _ => rfl⟩⟩)
    have G13 := Lib.hid (show g8 < g13 ∧ s + 1 + 1 < g13 ∧ g5 < g13 ∧ g6 < g13 by obtain ⟨_, h, _⟩ := T.out.o; have := blk_lt h; have := G.out; rw [hg13]; omega)
    clear T
    go_upto_region 15 with (fail)
    obtain ⟨w1, hw1⟩ : ∃ w1, w1 = wr.alloc (boxA (fun _ => 0)) := ⟨_, rfl⟩
    rw [← hw1] at T2
    change Code.wp _ _ _ _ (wr.alloc (boxA (fun _ => 0)))
    rw [← hw1, ← hg13]
    clear hw1 hg13 hz
    go_wp2
    go_loopw [14] (fun i wr => ∃ k : Nat, k ≤ 8 ∧ i = .int .i64 (k : Int) ∧ Aside0 (LoA w wr s g5 g6 g8 g13 A C (Dg.D P) (fun j => if j < k then Dg.D P j else 0) ∧ ∀ j, j < k → Dg.D P (8 + j) = 0)) (fun i _ => 8 - (intOf i).toNat)
    case atStart => exact ⟨0, Nat.zero_le _, rfl, ⟨by simpa using T2.out, fun j hj => absurd hj (Nat.not_lt_zero _)⟩⟩
    case round =>
     obtain ⟨k, hk, rfl, hR⟩ := hrel
     clear T2
     obtain ⟨fo, ho, hfo⟩ := hR.out.1.a.o
     by_cases hlt2 : k < 8
     ·
      have hb2 : decide ((k : Int) < 8) = true := decide_eq_true (by omega)
      obtain ⟨z, hz0⟩ : ∃ z, z = 8 + k := ⟨_, rfl⟩
      have w6 : IntKind.i64.wrap (8 + (k : Int)) = (z : Int) := i64s (x := 8) hz0 (by omega)
      have hz8 : (z : Int) < 16 := by omega
      have hk16 : (k : Int) < 16 := by omega
      have hk8 : (k : Int) < 8 := by omega
      have vz : fo z = Dg.D P (8 + k) := by rw [hfo z (by omega), hz0]
      have c8 : wr.cell? ⟨g8, z, none⟩ = some (.int .u64 ((fo z : Nat) : Int)) := (blk_cell ho z).trans (dA_get fo 16 z (by omega))
      have HT := Lib.hid hR.out.1
      by_cases hd : Dg.D P (8 + k) = 0
      ·
       have HD := Lib.hid (show ∀ j, j < k + 1 → Dg.D P (8 + j) = 0 from fun j hj => by
        rcases Nat.lt_succ_iff_lt_or_eq.1 hj with h | h
        ·
         exact hR.out.2 j h
        ·
         rw [h]; exact hd)
       rw [vz, hd] at c8
       have c8' : wr.cell? ⟨g8, k, none⟩ = some (.int .u64 ((Dg.D P k : Nat) : Int)) := (blk_cell ho k).trans ((dA_get fo 16 k (by omega)).trans (by rw [hfo k (by omega)]))
       obtain ⟨fl, hl, hfl⟩ := hR.out.1.l
       have c13 : wr.cell? ⟨g13, k, none⟩ = some (.int .u64 ((fl k : Nat) : Int)) := (blk_cell hl k).trans (dA_get fl 8 k hlt2)
       have f13 := blk_frozen hl k
       generalize fl k = o at c13
       obtain ⟨v, hv⟩ : ∃ v, v = Dg.D P k := ⟨_, rfl⟩
       rw [← hv] at c8'
       have Ev := Lib.hid hv
       clear ho hfo hR vz hd hl hfl hz0 hv
       go_wp2
       go_roundw
       case rel =>
        clear w6 hb2 hz8 hk16 hk8
        exact ⟨k + 1, hlt2, by go_num, ⟨HT.out.put G13.out.1 G13.out.2.1 G13.out.2.2.1 G13.out.2.2.2 HS.out k v _ (by rw [Ev.out]; exact fill_step _ _ k), HD.out⟩⟩
       case measure => clear w6 hb2; simp [intOf]; omega
      ·
       have hbig := Dg.high_some hd
       rw [vz] at c8
       have h := HR.out
       rw [if_neg (show ¬ P < 340282366920938463463374607431768211456 from Nat.not_lt.2 hbig)] at h
       obtain ⟨rfl, rfl, rfl⟩ := h
       have hpos : 0 < Dg.D P (8 + k) := Nat.pos_of_ne_zero hd
       generalize Dg.D P (8 + k) = o at c8 hpos
       have hc1 : decide (0 < o) = true := decide_eq_true hpos
       have r0 : wr.cell? ⟨s + 1 + 1, 0, none⟩ = some (.int .u64 0) := (blk_cell HT.out.a.r 0).trans rfl
       have r1 : wr.cell? ⟨s + 1 + 1, 1, none⟩ = some (.int .u64 0) := (blk_cell HT.out.a.r 1).trans rfl
       have q0 := blk_frozen HT.out.a.r 0
       have q1 := blk_frozen HT.out.a.r 1
       clear ho hfo hR vz hd hbig hz0 HR hP
       go_wp2
       refine bodyPost_ret (results_list (rs := [.cell 4 58, .tmp 5]) rfl (by simp) (.cell (s + 1 + 1) 58 #[.int .u64 ((0 : Nat) : Int), .int .u64 ((0 : Nat) : Int)] (0, 0) _ rfl (put24 HT.out.a.r 0 0) Try.underlying58 rfl (by kernel_rfl) (.tmp .nil))) rfl ⟨rfl, ?_⟩
       clear w6 hb2 hz8 hk16 hk8
       exact bset (bset HT.out.a.b _ (by have := HS.out; dsimp only; omega)) _ (by have := HS.out; dsimp only; omega)
     ·
      obtain rfl : k = 8 := by omega
      have hfit : P < 340282366920938463463374607431768211456 := Dg.high_zero hP.out hR.out.2
      have h := HR.out
      rw [if_pos hfit] at h
      obtain ⟨rfl, k2, k3⟩ := h
      obtain ⟨fx, hx, hfx⟩ := hR.out.1.l
      have HX := Aside0.mk hx
      have HT := Aside0.mk hR.out.1.a
      have FN := Lib.hid (number_any fx rh rl (by rw [k2]; exact HI_lt hfit) (by rw [k3]; exact LO_lt _) (fun i hi => ⟨by rw [hfx i (by omega), if_pos (by omega), k3]; exact (D_V _ i hi).1, by rw [hfx (4 + i) (by omega), if_pos (by omega), k2]; exact (D_V _ i hi).2⟩))
      clear hx hfx hR k2 k3 HR hfit hP ho hfo
      go_wp2_with (first
       | (refine wpList_load_row rfl 65 _ rfl g13 rfl 65 (dA fx 8) (0, 0) _ HX.out Try.underlying65 rfl (dA8_info _) ?_)
       | (go_at_call 49; refine (FN.out _).mono ?_; rintro e w4 ⟨rfl, hb4⟩; have q0 : w4.cell? ⟨s + 1 + 1, 0, none⟩ = some (.int .u64 0) := (blk_cell (blk_below HT.out.r hb4) 0).trans rfl; have q1 : w4.cell? ⟨s + 1 + 1, 1, none⟩ = some (.int .u64 0) := (blk_cell (blk_below HT.out.r hb4) 1).trans rfl; have p0 := blk_frozen (blk_below HT.out.r hb4) 0; have p1 := blk_frozen (blk_below HT.out.r hb4) 1; have B4 := Aside0.mk hb4; clear hb4))
      refine bodyPost_ret (results_list (rs := [.cell 4 58, .tmp 5]) rfl (by simp) (.cell (s + 1 + 1) 58 #[.int .u64 (rh : Int), .int .u64 (rl : Int)] (0, 0) _ rfl (put24 (blk_below HT.out.r B4.out) rh rl) Try.underlying58 rfl (by kernel_rfl) (.tmp .nil))) rfl ⟨rfl, ?_⟩
      exact bset (bset (below_step HT.out.b B4.out) _ (by have := HS.out; dsimp only; omega)) _ (by have := HS.out; dsimp only; omega)
end Go.Proofs.Ytobdhjnaglikaaa
