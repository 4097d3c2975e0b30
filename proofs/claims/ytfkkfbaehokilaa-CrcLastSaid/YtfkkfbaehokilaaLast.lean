/- The walk of the law CrcLast: texts that are the same but for their last four bytes have unlike sums, whatever sum stands ahead. -/
import Derived.Test.YtfkkfbaehokilaaRow
import Derived.Deep.RegionWith
import Derived.Deep.DeepCutAuto
import Derived.OpenShut
import Derived.Laws.IdiomArrays
namespace Go.Proofs.Ytfkkfbaehokilaa
open Go.RowKit
set_option linter.unusedVariables false
set_option linter.unusedSimpArgs false

/-- four bytes as an array's cells -/
def four (l : List Nat) : Array Value := (l.map fun (n : Nat) => Value.int .u8 (n : Int)).toArray
theorem bs_app (a b : ByteArray) : bs (a ++ b) = bs a ++ bs b := by simp [bs]

theorem Row.of_box (w : World) (l : List Nat) (t : TypeId) : Row (w.alloc (.cells (four l) t)) w.heap.size l := by
  intro j hj
  refine ⟨?_, ?_⟩
  · rw [World.cell?_alloc_at _ _ _ _ rfl]; simp [four, hj]
  · exact World.frozen?_alloc_at _ _ _ _ rfl
theorem Row.below {W w : World} {b : Nat} {l : List Nat} (h : Row W b l) (hb : b < W.heap.size) (hw : Below W.heap.size W w) : Row w b l := fun j hj => by
  rw [hw.cell (p := ⟨b, j, none⟩) hb, hw.frozen (p := ⟨b, j, none⟩) hb]; exact h j hj
theorem more_below (s : Nat) (hs : s < 4294967296) (t : ByteArray) (ht : t.size ≤ 140737488351232) (W w : World) (hw : Below W.heap.size W w) :
    Calls Try.prog 10 #[.int .u32 s, .string t] w fun e w' => e = .returned (.int .u32 (CrcPure.more s (bs t) : Nat)) ∧ Below W.heap.size W w' :=
  (more_any s hs t ht w).mono fun _ _ h => ⟨h.1, hw.trans (h.2.mono hw.size)⟩
theorem awake_below (W w : World) (hw : Below W.heap.size W w) : Calls Try.prog 9 #[] w fun e w' => e = .returned (.bool true) ∧ Below W.heap.size W w' :=
  (awake_any w).mono fun _ _ h => ⟨h.1, hw.trans (h.2.mono hw.size)⟩

set_option maxRecDepth 100000 in
theorem eq4 (a0 a1 a2 a3 b0 b1 b2 b3 : Int) (w : World) :
    (Op.equalIn 10000 34 (.agg #[.int .u8 a0, .int .u8 a1, .int .u8 a2, .int .u8 a3]) (.agg #[.int .u8 b0, .int .u8 b1, .int .u8 b2, .int .u8 b3])).run Try.prog w = .ok (a0 == b0 && (a1 == b1 && (a2 == b2 && a3 == b3))) w := by
  have p0 : ∀ (x0 x1 x2 x3 : Value) (W : World), (part 5 #[x0, x1, x2, x3] 0).run Try.prog W = .ok x0 W := by intros; kernel_rfl
  have p1 : ∀ (x0 x1 x2 x3 : Value) (W : World), (part 5 #[x0, x1, x2, x3] 1).run Try.prog W = .ok x1 W := by intros; kernel_rfl
  have p2 : ∀ (x0 x1 x2 x3 : Value) (W : World), (part 5 #[x0, x1, x2, x3] 2).run Try.prog W = .ok x2 W := by intros; kernel_rfl
  have p3 : ∀ (x0 x1 x2 x3 : Value) (W : World), (part 5 #[x0, x1, x2, x3] 3).run Try.prog W = .ok x3 W := by intros; kernel_rfl
  have hs : ∀ W : World, (sizeOf 5).run Try.prog W = .ok 1 W := by intros; kernel_rfl
  have he : ∀ (x y : Int) (W : World), (Op.equalIn 9999 5 (.int .u8 x) (.int .u8 y)).run Try.prog W = .ok (x == y) W := fun x y W => run_equalIn_int W 9998 5 .u8 .u8 x y Try.underlying5
  rw [show (10000 : Nat) = 9999 + 1 from rfl]
  unfold Op.equalIn
  simp only [Sem.run_bind, run_underlying Try.underlying34, Result.andThen_ok, hs, Std.Legacy.Range.forIn_eq_forIn_range', Std.Legacy.Range.size, Nat.sub_zero, Nat.add_sub_cancel, Nat.div_one, List.range', List.forIn_cons, List.forIn_nil, p0, p1, p2, p3, he, Nat.zero_mul, Nat.mul_one, Nat.zero_add, Nat.add_zero]
  cases h0 : (a0 == b0) <;> cases h1 : (a1 == b1) <;> cases h2 : (a2 == b2) <;> cases h3 : (a3 == b3) <;> simp [h0, h1, h2, h3, p0, p1, p2, p3, he, Sem.run_bind, Sem.run_pure]
theorem list4 : ∀ (l : List Nat), l.length = 4 → ∃ a b c d, l = [a, b, c, d]
  | [a, b, c, d], _ => ⟨a, b, c, d, rfl⟩
  | [], h | [_], h | [_, _], h | [_, _, _], h => by simp at h
  | _ :: _ :: _ :: _ :: _ :: _, h => by simp at h
theorem eqFour (a b : List Nat) (la : a.length = 4) (lb : b.length = 4) (w : World) :
    (Op.equalIn 10000 34 (.agg (four a)) (.agg (four b))).run Try.prog w = .ok (decide (a = b)) w := by
  obtain ⟨a0, a1, a2, a3, rfl⟩ := list4 a la
  obtain ⟨b0, b1, b2, b3, rfl⟩ := list4 b lb
  have h := eq4 a0 a1 a2 a3 b0 b1 b2 b3 w
  have e : ((a0 : Int) == (b0 : Int) && ((a1 : Int) == (b1 : Int) && ((a2 : Int) == (b2 : Int) && (a3 : Int) == (b3 : Int)))) = decide ([a0, a1, a2, a3] = [b0, b1, b2, b3]) := by
    rw [Bool.eq_iff_iff]; simp; omega
  rw [← e]; exact h

set_option maxRecDepth 100000 in
set_option maxHeartbeats 1000000 in
theorem crcLast_any (s : Nat) (hs : s < 4294967296) (t : ByteArray) (ht : t.size ≤ 300) (a b : List Nat) (la : a.length = 4) (lb : b.length = 4) (ha : ∀ c ∈ a, c < 256) (hb : ∀ c ∈ b, c < 256) (w : World) :
    Calls Try.prog 6 #[.int .u32 s, .string t, .agg (four a), .agg (four b)] w fun e w' => e = .returned (.bool true) ∧ Below w.heap.size w w' := by
  have q1 : decide ((300 : Int) < (t.size : Int)) = false := decide_eq_false (by omega)
  go_enter Try.func6, Try.ntmps6
  go_wp2_with (fail)
  obtain ⟨W0, hW0⟩ : ∃ W0, W0 = (w.alloc (.cells (four a) 34)).alloc (.cells (four b) 34) := ⟨_, rfl⟩
  rw [← hW0]
  have hra : Row W0 w.heap.size a := by rw [hW0]; exact (Row.of_box w a 34).below (by simp) ((Below.refl _ _).alloc (Nat.le_refl _) _)
  have hrb : Row W0 (w.heap.size + 1) b := by
    have := Row.of_box (w.alloc (.cells (four a) 34)) b 34
    rw [hW0]; simpa using this
  have hsz : w.heap.size + 1 < W0.heap.size := by rw [hW0]; simp
  have hb0 : Below w.heap.size w W0 := by rw [hW0]; exact ((Below.refl _ _).alloc (Nat.le_refl _) _).alloc (by simp) _
  have hga : W0.heap[w.heap.size]? = some (.cells (four a) 34 (0, 0)) := by rw [hW0]; exact heap_alloc2_old w _ _
  have hgb : W0.heap[w.heap.size + 1]? = some (.cells (four b) 34 (0, 0)) := by rw [hW0]; exact heap_alloc2_new w _ _
  clear hW0
  have hca : ∀ W, Below W0.heap.size W0 W → (convert 32 9 (.slice (some ⟨w.heap.size, 0, none⟩) 4 4)).run Try.prog W = .ok (.string (str a)) W := by
    intro W hW
    have := (hra.below (by omega) hW).string (t := str a) (bs_str _ ha).symm 4
    rwa [la] at this
  have hcb : ∀ W, Below W0.heap.size W0 W → (convert 32 9 (.slice (some ⟨w.heap.size + 1, 0, none⟩) 4 4)).run Try.prog W = .ok (.string (str b)) W := by
    intro W hW
    have := (hrb.below (by omega) hW).string (t := str b) (bs_str _ hb).symm 4
    rwa [lb] at this
  have hlast := CrcPure.last hs (bs_lt t) ha hb la lb
  have e1 : bs (t ++ str a) = bs t ++ a := by rw [bs_app, bs_str _ ha]
  have e2 : bs (t ++ str b) = bs t ++ b := by rw [bs_app, bs_str _ hb]
  have z1 : (str a).size = 4 := by simp [str, ByteArray.size, la]
  have z2 : (str b).size = 4 := by simp [str, ByteArray.size, lb]
  have HM1 := fun W => more_below s hs (t ++ str a) (by rw [ByteArray.size_append]; omega) W0 W
  have HM2 := fun W => more_below s hs (t ++ str b) (by rw [ByteArray.size_append]; omega) W0 W
  rw [e1] at HM1
  rw [e2] at HM2
  have p1 : t.size + (str a).size ≤ 9223372036854775807 := by omega
  have p2 : t.size + (str b).size ≤ 9223372036854775807 := by omega
  generalize CrcPure.more s (bs t ++ a) = m1 at *
  generalize CrcPure.more s (bs t ++ b) = m2 at *
  generalize str a = da at *
  generalize str b = db at *
  have HL := Lib.hid hlast; have HM1 := Lib.hid HM1; have HM2 := Lib.hid HM2
  have HGA := Lib.hid hga; have HGB := Lib.hid hgb
  clear hlast hra hrb e1 e2 z1 z2 hga hgb q1
  have hbr := Below.refl W0.heap.size W0
  have hbd := hbr.drew
  go_cut [9, 10] (fun x y W => x = .int .u32 m1 ∧ y = .int .u32 m2 ∧ Below W0.heap.size W0 W)
  case first =>
    go_region_with (first
      | (go_at_call_of 10 (t ++ da); refine (HM1.out _ (by assumption)).mono ?_; rintro e w' ⟨rfl, hb⟩)
      | (go_at_call_of 10 (t ++ db); refine (HM2.out _ (by assumption)).mono ?_; rintro e w' ⟨rfl, hb⟩))
    all_goals
      go_wp2_with (fail)
      go_meet
      case rel => exact ⟨rfl, rfl, by assumption⟩
  case rest =>
    obtain ⟨rfl, rfl, hbc⟩ := hcut
    have ga := (hbc.block w.heap.size (by omega)).trans HGA.out
    have gb := (hbc.block (w.heap.size + 1) (by omega)).trans HGB.out
    have i34a : (Try.prog.info? 34).map (·.size) = some (four a).size := by rw [show (four a).size = 4 by simp [four, la]]; kernel_rfl
    have i34b : (Try.prog.info? 34).map (·.size) = some (four b).size := by rw [show (four b).size = 4 by simp [four, lb]]; kernel_rfl
    have heq := eqFour a b la lb
    have hmm : ((m1 : Int) == (m2 : Int)) = decide (a = b) := by
      have := HL.out
      by_cases e : a = b
      · rw [decide_eq_true e]; exact beq_iff_eq.mpr (by rw [this.2 e])
      · rw [decide_eq_false e]; exact beq_eq_false_iff_ne.mpr (fun h => e (this.1 (by omega)))
    generalize decide (a = b) = d at *
    have GA := Lib.hid ga; have GB := Lib.hid gb
    clear ga gb
    go_wp2_with (first | (refine wpList_load_row rfl 34 _ rfl w.heap.size rfl 34 (four a) (0, 0) _ GA.out Try.underlying34 rfl i34a ?_) | (refine wpList_load_row rfl 34 _ rfl (w.heap.size + 1) rfl 34 (four b) (0, 0) _ GB.out Try.underlying34 rfl i34b ?_) | (go_at_call 9; refine (awake_below W0 _ hbc).mono ?_; rintro e w' ⟨rfl, hb⟩))
    go_ret
    exact ⟨rfl, hb0.trans (hb.mono hb0.size)⟩

set_option maxRecDepth 100000 in
set_option maxHeartbeats 1000000 in
theorem crcLast_long (s : Int) (t : ByteArray) (ht : 300 < t.size) (a b : List Nat) (w : World) :
    Calls Try.prog 6 #[.int .u32 s, .string t, .agg (four a), .agg (four b)] w fun e w' => e = .returned (.bool true) ∧ Below w.heap.size w w' := by
  have q1 : decide ((300 : Int) < (t.size : Int)) = true := decide_eq_true (by omega)
  go_enter Try.func6, Try.ntmps6
  go_wp2_with (fail)
  refine (awake_any _).mono ?_
  rintro e w1 ⟨rfl, hb⟩
  go_wp2
  go_ret
  exact ⟨rfl, (((Below.refl _ _).alloc (Nat.le_refl _) _).alloc (by simp) _).trans (hb.mono (by simp; omega))⟩
theorem list4v : ∀ (l : List Value), l.length = 4 → ∃ a b c d, l = [a, b, c, d]
  | [a, b, c, d], _ => ⟨a, b, c, d, rfl⟩
  | [], h | [_], h | [_, _], h | [_, _, _], h => by simp at h
  | _ :: _ :: _ :: _ :: _ :: _, h => by simp at h
theorem crcLast_walk (a0 : Int) (a1 : ByteArray) (x0 x1 x2 x3 y0 y1 y2 y3 : Int) (w : World) (w0 : (Lit.int .u32 a0).wf = true) (w1 : a1.size ≤ 140737488351232)
    (k0 : (Lit.int .u8 x0).wf = true) (k1 : (Lit.int .u8 x1).wf = true) (k2 : (Lit.int .u8 x2).wf = true) (k3 : (Lit.int .u8 x3).wf = true)
    (l0 : (Lit.int .u8 y0).wf = true) (l1 : (Lit.int .u8 y1).wf = true) (l2 : (Lit.int .u8 y2).wf = true) (l3 : (Lit.int .u8 y3).wf = true) :
    Calls Try.prog 6 #[.int .u32 a0, .string a1, .agg #[.int .u8 x0, .int .u8 x1, .int .u8 x2, .int .u8 x3], .agg #[.int .u8 y0, .int .u8 y1, .int .u8 y2, .int .u8 y3]] w fun e w' => e = .returned (.bool true) ∧ Below w.heap.size w w' := by
  have b0 := bounds_u32 w0
  have c0 := bounds_u8 k0; have c1 := bounds_u8 k1; have c2 := bounds_u8 k2; have c3 := bounds_u8 k3
  have d0 := bounds_u8 l0; have d1 := bounds_u8 l1; have d2 := bounds_u8 l2; have d3 := bounds_u8 l3
  obtain ⟨s, rfl⟩ : ∃ i : Nat, a0 = i := ⟨a0.toNat, by omega⟩
  obtain ⟨x0, rfl⟩ : ∃ i : Nat, x0 = i := ⟨x0.toNat, by omega⟩
  obtain ⟨x1, rfl⟩ : ∃ i : Nat, x1 = i := ⟨x1.toNat, by omega⟩
  obtain ⟨x2, rfl⟩ : ∃ i : Nat, x2 = i := ⟨x2.toNat, by omega⟩
  obtain ⟨x3, rfl⟩ : ∃ i : Nat, x3 = i := ⟨x3.toNat, by omega⟩
  obtain ⟨y0, rfl⟩ : ∃ i : Nat, y0 = i := ⟨y0.toNat, by omega⟩
  obtain ⟨y1, rfl⟩ : ∃ i : Nat, y1 = i := ⟨y1.toNat, by omega⟩
  obtain ⟨y2, rfl⟩ : ∃ i : Nat, y2 = i := ⟨y2.toNat, by omega⟩
  obtain ⟨y3, rfl⟩ : ∃ i : Nat, y3 = i := ⟨y3.toNat, by omega⟩
  by_cases h : 300 < a1.size
  · exact crcLast_long s a1 h [x0, x1, x2, x3] [y0, y1, y2, y3] w
  · exact crcLast_any s (by omega) a1 (by omega) [x0, x1, x2, x3] [y0, y1, y2, y3] rfl rfl (by simp; omega) (by simp; omega) w
end Go.Proofs.Ytfkkfbaehokilaa
