/- wire's Reader.ask: what is asked is there; it is not there. -/
import Derived.Test.YtjmcdnhbiamokaaAsk
namespace Go.Proofs.Ytjmcdnhbiamokaa
open Go.RowKit Go.Proofs.YtjmcdnhbiamokaaW.PrintWords
set_option linter.unusedVariables false
set_option linter.unusedSimpArgs false
set_option maxHeartbeats 2000000 in
theorem ask_yes (K : FuncId) (cap : Array Value) (g : Nat) (s : ByteArray) (a : Int) (S : Nat → Prop) (T : World → Prop) (w : World) (hR : RB w g s a false) (ha : 0 ≤ a) (hs : a ≤ s.size) (hz : s.size ≤ 140737488351232)
    (hK : ∀ (args : Array Value) (w : World), (callFunc K args).run Try.prog w = .ok (.enter K args) w) (hS : ∀ i, S i → i < w.heap.size)
    (hdo : ∀ w1, Oth (fun _ => False) w w1 → Calls Try.prog K cap w1 fun e w2 => e = .returned (.tuple #[]) ∧ Oth S w1 w2 ∧ T w2)
    (hT : ∀ w1 w2, Oth (fun k => w.heap.size ≤ k) w1 w2 → T w1 → T w2) :
    Calls Try.prog 25 #[.pointer (some ⟨g, 0, none⟩), .func (Fn.func K) #[] cap] w fun e w' => e = .returned (.bool true) ∧ Oth S w w' ∧ T w' := by
  have hmf : ∀ (fn : Fn) (first cap : Array Value) (w : World), (Instr.makeFunc fn first cap).run Try.prog w = .ok (.func fn first cap) w := fun _ _ _ _ => rfl
  have R2 := (hR.alloc (.cells #[.pointer (some ⟨g, 0, none⟩)] 46)).alloc (.cells #[.bool false] 4)
  have a1 := R2.c1
  have hR' := Lib.hid hR
  have hdo' := Lib.hid hdo
  have hT' := Lib.hid hT
  clear hR R2 hdo hT
  go_enter_defers Try.func25, Try.ntmps25
  go_wp2_with (fail)
  clear a1
  have R3 := hR'.out.alloc (.cells #[.pointer (some ⟨g, 0, none⟩)] 46) |>.alloc (.cells #[.bool false] 4) |>.alloc (.cells #[.int .i64 a] 3)
  have O3 : Oth (fun _ => False) w (((w.alloc (.cells #[.pointer (some ⟨g, 0, none⟩)] 46)).alloc (.cells #[.bool false] 4)).alloc (.cells #[.int .i64 a] 3)) := (((Oth.refl _ w).alloc _).alloc _).alloc _
  have cr : (((w.alloc (.cells #[.pointer (some ⟨g, 0, none⟩)] 46)).alloc (.cells #[.bool false] 4)).alloc (.cells #[.int .i64 a] 3)).cell? ⟨w.heap.size, 0, none⟩ = some (.pointer (some ⟨g, 0, none⟩)) := by simp [go_sem]
  have ck : (((w.alloc (.cells #[.pointer (some ⟨g, 0, none⟩)] 46)).alloc (.cells #[.bool false] 4)).alloc (.cells #[.int .i64 a] 3)).cell? ⟨w.heap.size + 1, 0, none⟩ = some (.bool false) := by simp [go_sem]
  have fk : (((w.alloc (.cells #[.pointer (some ⟨g, 0, none⟩)] 46)).alloc (.cells #[.bool false] 4)).alloc (.cells #[.int .i64 a] 3)).frozen? ⟨w.heap.size + 1, 0, none⟩ = false := by simp [go_sem]
  generalize (((w.alloc (.cells #[.pointer (some ⟨g, 0, none⟩)] 46)).alloc (.cells #[.bool false] 4)).alloc (.cells #[.int .i64 a] 3)) = w3 at *
  have c0 := R3.c0
  have c1 := R3.c1
  have c2 := R3.c2
  have hR3 := Lib.hid R3
  have hO3 := Lib.hid O3
  clear R3 O3
  go_still_tail 24, (by kernel_rfl)
  have D : Drawn0 w3 w3.drew := ⟨⟨1, rfl⟩⟩
  change wpList _ _ _ _ _ w3.drew
  have ck' : w3.drew.cell? ⟨w.heap.size + 1, 0, none⟩ = some (.bool false) := ck
  have fk' : w3.drew.frozen? ⟨w.heap.size + 1, 0, none⟩ = false := fk
  have hO4 : Oth (fun _ => False) w w3.drew := hO3.out.trans (Oth.drawn D)
  generalize w3.drew = w4 at *
  clear cr ck fk c0 c1 c2 D hR3 hO3
  have hO4' := Lib.hid hO4
  clear hO4
  go_wp2_with (go_at_call 27; refine (must_yes _).mono ?_; rintro e w' ⟨rfl, rfl⟩)
  refine (hdo'.out _ hO4'.out).mono ?_
  rintro e w5 ⟨rfl, hO5, hT5⟩
  have hnS : ¬ S (w.heap.size + 1) := fun h => by have := hS _ h; omega
  have ck5 : w5.cell? ⟨w.heap.size + 1, 0, none⟩ = some (.bool false) := hO5.cell hnS ck'
  have fk5 : w5.frozen? ⟨w.heap.size + 1, 0, none⟩ = false := by rw [hO5.frozen hnS (lt_cell ck')]; exact fk'
  have hO5' := Lib.hid ((hO4'.out.mono (T := S) (fun i h => h.elim)).trans hO5)
  have hT5' := Lib.hid hT5
  clear hO5 hT5 ck' fk' hO4'
  go_wp2
  refine leaves_cons (f := 35) (args := #[.pointer (some ⟨w.heap.size + 1 + 1, 0, none⟩), .pointer (some ⟨w.heap.size, 0, none⟩), .pointer (some ⟨w.heap.size + 1, 0, none⟩)]) (by simp) (by simp [go_sem]) ?_
  refine (catch_idle ⟨w.heap.size + 1 + 1, 0, none⟩ ⟨w.heap.size, 0, none⟩ ⟨w.heap.size + 1, 0, none⟩ _).mono ?_
  rintro e u' w'' ⟨rfl, rfl, rfl⟩
  have c6 : (w5.setCell ⟨w.heap.size + 1, 0, none⟩ (.bool true)).cell? ⟨w.heap.size + 1, 0, none⟩ = some (.bool true) := World.cell?_setCell_same _ _ _ ck5
  have hO6 : Oth S w (w5.setCell ⟨w.heap.size + 1, 0, none⟩ (.bool true)) := hO5'.out.set (.inr (Nat.le_add_right _ _)) _
  have hT6 : T (w5.setCell ⟨w.heap.size + 1, 0, none⟩ (.bool true)) := hT'.out _ _ ((Oth.refl _ w5).set (.inl (Nat.le_add_right _ _)) _) hT5'.out
  generalize w5.setCell ⟨w.heap.size + 1, 0, none⟩ (.bool true) = w6 at *
  refine ⟨.bool true, ?_, rfl, hO6, hT6⟩
  simp [results, Try.results25, go_sem, c6]
set_option maxHeartbeats 2000000 in
theorem ask_no (K : FuncId) (cap : Array Value) (g : Nat) (s : ByteArray) (a : Int) (S : Nat → Prop) (T : World → Prop) (w : World) (hR : RB w g s a false) (ha : 0 ≤ a) (hs : a ≤ s.size) (hz : s.size ≤ 140737488351232)
    (hg : S g) (hK : ∀ (args : Array Value) (w : World), (callFunc K args).run Try.prog w = .ok (.enter K args) w) (hS : ∀ i, S i → i < w.heap.size)
    (hdo : ∀ w1, Oth (fun _ => False) w w1 → Calls Try.prog K cap w1 fun e w2 => e = .panicked [lostP] ∧ Oth S w1 w2 ∧ (∃ a2 l2, RB w2 g s a2 l2) ∧ T w2)
    (hT : ∀ w1 w2, Oth (fun k => k = g ∨ w.heap.size ≤ k) w1 w2 → T w1 → T w2) :
    Calls Try.prog 25 #[.pointer (some ⟨g, 0, none⟩), .func (Fn.func K) #[] cap] w fun e w' => e = .returned (.bool false) ∧ Oth S w w' ∧ RB w' g s a true ∧ T w' := by
  have hmf : ∀ (fn : Fn) (first cap : Array Value) (w : World), (Instr.makeFunc fn first cap).run Try.prog w = .ok (.func fn first cap) w := fun _ _ _ _ => rfl
  have R2 := (hR.alloc (.cells #[.pointer (some ⟨g, 0, none⟩)] 46)).alloc (.cells #[.bool false] 4)
  have a1 := R2.c1
  have hR' := Lib.hid hR
  have hdo' := Lib.hid hdo
  have hT' := Lib.hid hT
  clear hR R2 hdo hT
  go_enter_defers Try.func25, Try.ntmps25
  go_wp2_with (fail)
  clear a1
  have R3 := hR'.out.alloc (.cells #[.pointer (some ⟨g, 0, none⟩)] 46) |>.alloc (.cells #[.bool false] 4) |>.alloc (.cells #[.int .i64 a] 3)
  have O3 : Oth (fun _ => False) w (((w.alloc (.cells #[.pointer (some ⟨g, 0, none⟩)] 46)).alloc (.cells #[.bool false] 4)).alloc (.cells #[.int .i64 a] 3)) := (((Oth.refl _ w).alloc _).alloc _).alloc _
  have cr : (((w.alloc (.cells #[.pointer (some ⟨g, 0, none⟩)] 46)).alloc (.cells #[.bool false] 4)).alloc (.cells #[.int .i64 a] 3)).cell? ⟨w.heap.size, 0, none⟩ = some (.pointer (some ⟨g, 0, none⟩)) := by simp [go_sem]
  have ck : (((w.alloc (.cells #[.pointer (some ⟨g, 0, none⟩)] 46)).alloc (.cells #[.bool false] 4)).alloc (.cells #[.int .i64 a] 3)).cell? ⟨w.heap.size + 1, 0, none⟩ = some (.bool false) := by simp [go_sem]
  have ca : (((w.alloc (.cells #[.pointer (some ⟨g, 0, none⟩)] 46)).alloc (.cells #[.bool false] 4)).alloc (.cells #[.int .i64 a] 3)).cell? ⟨w.heap.size + 1 + 1, 0, none⟩ = some (.int .i64 a) := by simp [go_sem]
  have fk : (((w.alloc (.cells #[.pointer (some ⟨g, 0, none⟩)] 46)).alloc (.cells #[.bool false] 4)).alloc (.cells #[.int .i64 a] 3)).frozen? ⟨w.heap.size + 1, 0, none⟩ = false := by simp [go_sem]
  generalize (((w.alloc (.cells #[.pointer (some ⟨g, 0, none⟩)] 46)).alloc (.cells #[.bool false] 4)).alloc (.cells #[.int .i64 a] 3)) = w3 at *
  have c0 := R3.c0
  have c1 := R3.c1
  have c2 := R3.c2
  have hR3 := Lib.hid R3
  have hO3 := Lib.hid O3
  clear R3 O3
  go_still_tail 24, (by kernel_rfl)
  have D : Drawn0 w3 w3.drew := ⟨⟨1, rfl⟩⟩
  change wpList _ _ _ _ _ w3.drew
  have ck' : w3.drew.cell? ⟨w.heap.size + 1, 0, none⟩ = some (.bool false) := ck
  have cr' : w3.drew.cell? ⟨w.heap.size, 0, none⟩ = some (.pointer (some ⟨g, 0, none⟩)) := cr
  have ca' : w3.drew.cell? ⟨w.heap.size + 1 + 1, 0, none⟩ = some (.int .i64 a) := ca
  have fk' : w3.drew.frozen? ⟨w.heap.size + 1, 0, none⟩ = false := fk
  have hO4 : Oth (fun _ => False) w w3.drew := hO3.out.trans (Oth.drawn D)
  generalize w3.drew = w4 at *
  clear cr ca ck fk c0 c1 c2 D hR3 hO3
  have hO4' := Lib.hid hO4
  clear hO4
  go_wp2_with (go_at_call 27; refine (must_yes _).mono ?_; rintro e w' ⟨rfl, rfl⟩)
  refine (hdo'.out _ hO4'.out).mono ?_
  rintro e w5 ⟨rfl, hO5, ⟨a2, l2, hR5⟩, hT5⟩
  have hnS : ∀ k, ¬ S (w.heap.size + k) := fun k h => by have := hS _ h; omega
  have cr5 : w5.cell? ⟨w.heap.size, 0, none⟩ = some (.pointer (some ⟨g, 0, none⟩)) := hO5.cell (hnS 0) cr'
  have ca5 : w5.cell? ⟨w.heap.size + 1 + 1, 0, none⟩ = some (.int .i64 a) := hO5.cell (hnS 2) ca'
  have ck5 : w5.cell? ⟨w.heap.size + 1, 0, none⟩ = some (.bool false) := hO5.cell (hnS 1) ck'
  have fk5 : w5.frozen? ⟨w.heap.size + 1, 0, none⟩ = false := by rw [hO5.frozen (hnS 1) (lt_cell ck')]; exact fk'
  have hO5' := Lib.hid ((hO4'.out.mono (T := S) (fun i h => h.elim)).trans hO5)
  have hT5' := Lib.hid hT5
  have hR5' := Lib.hid hR5
  have hgw := Lib.hid (hS _ hg)
  clear hO5 hT5 hR5 cr' ca' ck' fk' hO4'
  go_wp2
  refine leaves_cons (f := 35) (args := #[.pointer (some ⟨w.heap.size + 1 + 1, 0, none⟩), .pointer (some ⟨w.heap.size, 0, none⟩), .pointer (some ⟨w.heap.size + 1, 0, none⟩)]) (by simp) (by simp [go_sem]) ?_
  have hgn : (w.heap.size + 1) ≠ g := by have := hgw.out; omega
  refine (catch_lost ⟨w.heap.size + 1 + 1, 0, none⟩ ⟨w.heap.size, 0, none⟩ ⟨w.heap.size + 1, 0, none⟩ g s a2 a l2 false _ ca5 cr5 ck5 fk5 hR5'.out hgn).mono ?_
  rintro e u' w'' ⟨rfl, rfl, hw⟩
  have ck6 : (((w5.alloc (.cells #[] 65)).setCell ⟨g, 2, none⟩ (.bool true)).setCell ⟨g, 1, none⟩ (.int .i64 a)).cell? ⟨w.heap.size + 1, 0, none⟩ = some (.bool false) := by
    rw [World.cell?_setCell_other _ _ _ _ (by intro h; cases h), World.cell?_setCell_other _ _ _ _ (by intro h; cases h), al_cell _ (lt_cell ck5)]; exact ck5
  have c6 : w''.cell? ⟨w.heap.size + 1, 0, none⟩ = some (.bool false) := by rw [hw]; exact World.cell?_setCell_same _ _ _ ck6
  have hO6 : Oth S w w'' := by rw [hw]; exact (((hO5'.out.alloc _).set (.inl hg) _).set (.inl hg) _).set (.inr (Nat.le_add_right _ _)) _
  have hR6 : RB w'' g s a true := by rw [hw]; exact (((hR5'.out.alloc _).set2 true).set1 a).set hgn _
  have hT6 : T w'' := by rw [hw]; exact hT'.out _ _ (((((Oth.refl _ w5).alloc _).set (.inl (.inl rfl)) _).set (.inl (.inl rfl)) _).set (.inl (.inr (Nat.le_add_right _ _))) _) hT5'.out
  clear hw
  refine ⟨.bool false, ?_, rfl, hO6, hR6, hT6⟩
  simp [results, Try.results25, go_sem, c6]
end Go.Proofs.Ytjmcdnhbiamokaa
