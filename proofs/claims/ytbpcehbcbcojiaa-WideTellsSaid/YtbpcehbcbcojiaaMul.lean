import Derived.Test.YtbpcehbcbcojiaaVc
import Derived.Deep.RegionWith
import Derived.Deep.RegionHeld3
import Derived.Deep.DeepCutAuto
import Derived.Deep.DrawnRows
namespace Go.Proofs.Ytbpcehbcbcojiaa
open Go.RowKit
set_option linter.unusedVariables false
set_option linter.unusedSimpArgs false
abbrev W0 (w : World) (ah al bh bl : Nat) : World := ((w.alloc (.cells #[.int .u64 (ah : Int), .int .u64 (al : Int)] 24)).alloc (.cells #[.int .u64 (bh : Int), .int .u64 (bl : Int)] 24)).alloc (.cells #[.int .u64 0, .int .u64 0] 24)
theorem two_set {w : World} {g : Nat} {a b : Value} (h0 : w.cell? ⟨g, 0, none⟩ = some a) (h1 : w.cell? ⟨g, 1, none⟩ = some b) (h l : Nat) : Two ((w.setCell ⟨g, 0, none⟩ (.int .u64 (h : Int))).setCell ⟨g, 1, none⟩ (.int .u64 (l : Int))) g h l := by
 refine ⟨?_, ?_⟩
 ·
  rw [World.cell?_setCell_other _ _ _ _ (by intro x; injection x; contradiction)]
  exact World.cell?_setCell_same _ _ _ h0
 ·
  have : ((w.setCell ⟨g, 0, none⟩ (.int .u64 (h : Int)))).cell? ⟨g, 1, none⟩ = some b := by
   rw [World.cell?_setCell_other _ _ _ _ (by intro x; injection x; contradiction)]
   exact h1
  exact World.cell?_setCell_same _ _ _ this
theorem cell_other {w : World} {g k i : Nat} {a x y : Value} (hne : g ≠ k) (h0 : w.cell? ⟨k, i, none⟩ = some a) : ((w.setCell ⟨g, 0, none⟩ x).setCell ⟨g, 1, none⟩ y).cell? ⟨k, i, none⟩ = some a := by
 rw [World.cell?_setCell_other _ _ _ _ (by intro x; injection x; contradiction), World.cell?_setCell_other _ _ _ _ (by intro x; injection x; contradiction)]
 exact h0
theorem two_other {w : World} {g k h l : Nat} {x y : Value} (hne : g ≠ k) (t : Two w k h l) : Two ((w.setCell ⟨g, 0, none⟩ x).setCell ⟨g, 1, none⟩ y) k h l := ⟨cell_other hne t.1, cell_other hne t.2⟩
theorem lt_of {a b : World} (h : Below a.heap.size a b) (k : Nat) (hk : k < a.heap.size) : k < b.heap.size := Nat.lt_of_lt_of_le hk h.size
theorem held_mk {w w' : World} {ah al bh bl : Nat} (h : Below (W0 w ah al bh bl).heap.size (W0 w ah al bh bl) w') :
  w'.cell? ⟨w.heap.size, 0, none⟩ = some (.int .u64 (ah : Int)) ∧ w'.cell? ⟨w.heap.size, 1, none⟩ = some (.int .u64 (al : Int)) ∧ w'.cell? ⟨w.heap.size + 1, 0, none⟩ = some (.int .u64 (bh : Int)) ∧ w'.cell? ⟨w.heap.size + 1, 1, none⟩ = some (.int .u64 (bl : Int)) ∧ Below (W0 w ah al bh bl).heap.size (W0 w ah al bh bl) w' := by
 obtain ⟨hc, _⟩ := bcell h
 refine ⟨?_, ?_, ?_, ?_, h⟩ <;> (rw [hc _ _ (by simp <;> omega)]; simp [go_sem])
set_option maxRecDepth 100000 in
set_option maxHeartbeats 16000000 in
theorem mul_core (ah al bh bl xh xl yh yl oh ol c cr d hi : Nat) (w : World)
  (F1 : Hid (∀ w : World, Calls Try.prog 19 #[.int .u64 (ah : Int), .int .u64 (bl : Int)] w fun e w' => e = .returned (U (xh) (xl)) ∧ Below w.heap.size w w'))
  (F2 : Hid (∀ w : World, Calls Try.prog 19 #[.int .u64 (al : Int), .int .u64 (bh : Int)] w fun e w' => e = .returned (U (yh) (yl)) ∧ Below w.heap.size w w'))
  (F3 : Hid (∀ w : World, Calls Try.prog 19 #[.int .u64 (al : Int), .int .u64 (bl : Int)] w fun e w' => e = .returned (U (oh) (ol)) ∧ Below w.heap.size w w'))
  (R1 : Hid (∀ w, (callFunc 28 #[.int .u64 (xl : Int), .int .u64 (yl : Int), .int .u64 0]).run Try.prog w = .ok (.value (.tuple #[.int .u64 (cr : Int), .int .u64 (c : Int)])) w))
  (R2 : Hid (∀ w, (callFunc 28 #[.int .u64 (oh : Int), .int .u64 (cr : Int), .int .u64 0]).run Try.prog w = .ok (.value (.tuple #[.int .u64 (hi : Int), .int .u64 (d : Int)])) w))
  (rh rl : Nat) (ok : Bool) (hl : Hid ((Hid (ok = false ∧ rh = 0 ∧ rl = 0) ∧ ((¬ ah = 0 ∧ ¬ bh = 0) ∨ ((ah = 0 ∨ (¬ ah = 0 ∧ bh = 0)) ∧ (¬ xh = 0 ∨ (xh = 0 ∧ ¬ yh = 0) ∨ (xh = 0 ∧ yh = 0 ∧ ((c : Int) != 0) = true) ∨ (xh = 0 ∧ yh = 0 ∧ ((c : Int) != 0) = false ∧ ((d : Int) != 0) = true))))) ∨
   (Hid (ok = true ∧ rh = hi ∧ rl = ol) ∧ (ah = 0 ∨ (¬ ah = 0 ∧ bh = 0)) ∧ xh = 0 ∧ yh = 0 ∧ ((c : Int) != 0) = false ∧ ((d : Int) != 0) = false))) :
  Calls Try.prog 17 #[U ah al, U bh bl] w fun e w' => e = .returned (.tuple #[U rh rl, .bool ok]) ∧ Below w.heap.size w w' := by
 go_enter Try.func17, Try.ntmps17
 go_upto_region 1 with fail
 go_cut [6, 7] (fun s6 s7 wx => ∃ g k : Nat, s6 = .pointer (some ⟨g, 0, none⟩) ∧ s7 = .pointer (some ⟨k, 0, none⟩) ∧ Two wx g (xh) (xl) ∧ Two wx k (yh) (yl) ∧ Below (W0 w ah al bh bl).heap.size (W0 w ah al bh bl) wx)
 case first =>
  go_region_held3 (fun w' => w'.cell? ⟨w.heap.size, 0, none⟩ = some (.int .u64 (ah : Int)) ∧ w'.cell? ⟨w.heap.size, 1, none⟩ = some (.int .u64 (al : Int)) ∧ w'.cell? ⟨w.heap.size + 1, 0, none⟩ = some (.int .u64 (bh : Int)) ∧ w'.cell? ⟨w.heap.size + 1, 1, none⟩ = some (.int .u64 (bl : Int)) ∧ Below (W0 w ah al bh bl).heap.size (W0 w ah al bh bl) w')
   ((refine held_mk ?_; repeat (first | assumption | exact Below.refl _ _ | apply bd | apply ba | refine bset ?_ _ (by simp <;> omega) | refine btr ?_ (by assumption))))
   (first
    | (go_at_call_of 19 (Value.int .u64 (ah : Int)); refine (F1.out _).mono ?_; rintro e w' ⟨rfl, hb1⟩; obtain ⟨hc1, hf1⟩ := bcell hb1; have y1 := lt_of hb1; have z1 := hb1.size; simp at z1; try (have q1a : w.heap.size + 1 + 1 + 1 < w'.heap.size := by omega); try (have q1b : w.heap.size + 1 + 1 + 1 + 1 < w'.heap.size := by omega))
    | (go_at_call_of 19 (Value.int .u64 (al : Int)); refine (F2.out _).mono ?_; rintro e w' ⟨rfl, hb2⟩; obtain ⟨hc2, hf2⟩ := bcell hb2; have y2 := lt_of hb2; have z2 := hb2.size; (try simp at z2); try (have q2a : w.heap.size + 1 + 1 + 1 < w'.heap.size := by omega); try (have q2b : w.heap.size + 1 + 1 + 1 + 1 < w'.heap.size := by omega)))
  all_goals
   go_wp2_with fail
   go_meet
   refine ⟨_, _, rfl, rfl, ?_, ?_, ?_⟩
   all_goals first
    | (refine ⟨?_, ?_⟩ <;> (simp [*, go_sem, World.cell?_alloc_past]; done))
    | (refine two_other (by simp <;> omega) (two_set (a := .int .u64 0) (b := .int .u64 0) ?_ ?_ _ _) <;> (simp [*, go_sem, World.cell?_alloc_past]; done))
    | (refine two_set (a := .int .u64 0) (b := .int .u64 0) (cell_other (by simp <;> omega) ?_) (cell_other (by simp <;> omega) ?_) _ _ <;> (simp [*, go_sem, World.cell?_alloc_past]; done))
    | (repeat (first | assumption | exact Below.refl _ _ | apply bd | apply ba | refine bset ?_ _ (by simp <;> omega) | refine btr ?_ (by assumption)))
 case rest =>
  obtain ⟨g, k, rfl, rfl, tg, tk, hb⟩ := hcut
  obtain ⟨hc, hf⟩ := bcell hb
  have hz := hb.size
  simp at hz
  obtain ⟨tg0, tg1⟩ := tg
  obtain ⟨tk0, tk1⟩ := tk
  have r1 := R1.out
  have r2 := R2.out
  clear R1 R2 F1 F2
  have HB := Lib.hid hb
  clear hb
  have m0 : w.heap.size < wc.heap.size := by omega
  have m1 : w.heap.size + 1 < wc.heap.size := by omega
  have m2 : w.heap.size + 1 + 1 < wc.heap.size := by omega
  have mg := World.block_lt_of_cell? wc _ tg0
  have mk := World.block_lt_of_cell? wc _ tk0
  have v0 : VC wc (w.heap.size + 1 + 1) 0 0 := ⟨by rw [hc _ _ (by simp)]; simp [go_sem], by rw [hc _ _ (by simp)]; simp [go_sem], by rw [hf _ _ (by simp)]; simp [go_sem], by rw [hf _ _ (by simp)]; simp [go_sem]⟩
  clear hz
  rcases hl.out with ⟨HL, hh⟩ | ⟨HL, hB, hx, hy, hcc, hd⟩
  ·
   clear hl
   rcases hh with ⟨a1, a2⟩ | ⟨a1 | ⟨a1, a2⟩, b1 | ⟨b1, b2⟩ | ⟨b1, b2, b3⟩ | ⟨b1, b2, b3, b4⟩⟩
   all_goals
    go_wp2_with (first | (go_at_call 19; refine (F3.out _).mono ?_; rintro e w1 ⟨rfl, hb1⟩; obtain ⟨hc1, hf1⟩ := bcell hb1; have n0 := lt_of hb1 _ m0; have n1 := lt_of hb1 _ m1; have n2 := lt_of hb1 _ m2; have ng := lt_of hb1 _ mg; have nk := lt_of hb1 _ mk) | (go_at_call 29; refine (kept_no _ _ _).mono ?_; rintro e w2 ⟨rfl, hb2⟩; obtain ⟨hc2, hf2⟩ := bcell hb2; have z2 := hb2.size; simp at z2; have q2 : w.heap.size + 1 + 1 < w2.heap.size := by omega))
   all_goals
    have v3 := vc_below (vc_alloc (o := .cells #[.int .u64 (oh : Int), .int .u64 (ol : Int)] 24) (vc_below v0 hb1)) hb2
    obtain ⟨e0, e1, _, _⟩ := vc_lo (m := 0) (vc_hi (m := 0) v3)
    refine bodyPost_ret (v := .tuple #[U 0 0, .bool false]) (by (try simp at e0 e1); simp [results, Try.results17, e0, e1, go_sem]) rfl ⟨by obtain ⟨rfl, rfl, rfl⟩ := HL.out; rfl, ?_⟩
    refine bset (bset ?_ _ (by simp; omega)) _ (by simp; omega)
    exact btr (ba (btr (btr (ba (ba (ba (Below.refl _ _) _) _) _) HB.out) hb1) _) hb2
  ·
   clear hl
   rcases hB with hB | ⟨hB1, hB⟩
   all_goals
    go_wp2_with (first | (go_at_call 19; refine (F3.out _).mono ?_; rintro e w1 ⟨rfl, hb1⟩; obtain ⟨hc1, hf1⟩ := bcell hb1; have n0 := lt_of hb1 _ m0; have n1 := lt_of hb1 _ m1; have n2 := lt_of hb1 _ m2; have ng := lt_of hb1 _ mg; have nk := lt_of hb1 _ mk) | (go_at_call 29; refine (kept_yes _ _ _).mono ?_; rintro e w2 ⟨rfl, hb2⟩; obtain ⟨hc2, hf2⟩ := bcell hb2; have z2 := hb2.size; simp at z2; have q2 : w.heap.size + 1 + 1 < w2.heap.size := by omega))
   all_goals
    have v3 := vc_below (vc_alloc (o := .cells #[.int .u64 (oh : Int), .int .u64 (ol : Int)] 24) (vc_below v0 hb1)) hb2
    obtain ⟨e0, e1, _, _⟩ := vc_lo (m := ol) (vc_hi (m := hi) v3)
    refine bodyPost_ret (v := .tuple #[U hi ol, .bool true]) (by (try simp at e0 e1); simp [results, Try.results17, e0, e1, go_sem]) rfl ⟨by obtain ⟨rfl, rfl, rfl⟩ := HL.out; rfl, ?_⟩
    refine bset (bset ?_ _ (by simp; omega)) _ (by simp; omega)
    exact btr (ba (btr (btr (ba (ba (ba (Below.refl _ _) _) _) _) HB.out) hb1) _) hb2
end Go.Proofs.Ytbpcehbcbcojiaa
