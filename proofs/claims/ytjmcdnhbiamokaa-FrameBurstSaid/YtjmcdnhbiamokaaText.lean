/- wire's Reader.Text: its two contracts. -/
import Derived.Test.YtjmcdnhbiamokaaTxt
namespace Go.Proofs.Ytjmcdnhbiamokaa
open Go.RowKit Go.Proofs.YtjmcdnhbiamokaaW.PrintWords
set_option linter.unusedVariables false
set_option linter.unusedSimpArgs false
theorem enter26 (args : Array Value) (w : World) : (callFunc 26 args).run Try.prog w = .ok (.enter 26 args) w := by simp [go_sem]
set_option maxHeartbeats 2000000 in
theorem text_yes (g : Nat) (s : ByteArray) (a m b : Nat) (str : ByteArray) (w : World) (hR : RB w g s a false) (ha : a ≤ s.size) (hz : s.size ≤ 140737488351232) (hm : m ≤ 140737488351232) (hF : textF s a m = some (str, b)) :
    Calls Try.prog 19 #[.pointer (some ⟨g, 0, none⟩), .int .i64 (m : Int)] w fun e w' => e = .returned (.string str) ∧ Oth (· = g) w w' ∧ RB w' g s b false := by
  have hmf : ∀ (fn : Fn) (first cap : Array Value) (w : World), (Instr.makeFunc fn first cap).run Try.prog w = .ok (.func fn first cap) w := fun _ _ _ _ => rfl
  have hg : g < w.heap.size := lt_cell hR.c0
  have hR' := Lib.hid hR
  have hg' := Lib.hid hg
  clear hR hg
  go_enter Try.func19, Try.ntmps19
  go_wp2_with (fail)
  have R3 := (hR'.out.alloc (.cells #[.pointer (some ⟨g, 0, none⟩)] 46) |>.alloc (.cells #[.int .i64 (m : Int)] 3) |>.alloc (.cells #[.string ⟨#[]⟩] 9))
  have O3 : Oth (· = g) w (((w.alloc (.cells #[.pointer (some ⟨g, 0, none⟩)] 46)).alloc (.cells #[.int .i64 (m : Int)] 3)).alloc (.cells #[.string ⟨#[]⟩] 9)) := (((Oth.refl _ w).alloc _).alloc _).alloc _
  have z3 : (((w.alloc (.cells #[.pointer (some ⟨g, 0, none⟩)] 46)).alloc (.cells #[.int .i64 (m : Int)] 3)).alloc (.cells #[.string ⟨#[]⟩] 9)).heap.size = w.heap.size + 3 := by simp
  have cr : (((w.alloc (.cells #[.pointer (some ⟨g, 0, none⟩)] 46)).alloc (.cells #[.int .i64 (m : Int)] 3)).alloc (.cells #[.string ⟨#[]⟩] 9)).cell? ⟨w.heap.size, 0, none⟩ = some (.pointer (some ⟨g, 0, none⟩)) := by simp [go_sem]
  have cm : (((w.alloc (.cells #[.pointer (some ⟨g, 0, none⟩)] 46)).alloc (.cells #[.int .i64 (m : Int)] 3)).alloc (.cells #[.string ⟨#[]⟩] 9)).cell? ⟨w.heap.size + 1, 0, none⟩ = some (.int .i64 (m : Int)) := by simp [go_sem]
  have co : (((w.alloc (.cells #[.pointer (some ⟨g, 0, none⟩)] 46)).alloc (.cells #[.int .i64 (m : Int)] 3)).alloc (.cells #[.string ⟨#[]⟩] 9)).cell? ⟨w.heap.size + 1 + 1, 0, none⟩ = some (.string ⟨#[]⟩) := by simp [go_sem]
  have fo : (((w.alloc (.cells #[.pointer (some ⟨g, 0, none⟩)] 46)).alloc (.cells #[.int .i64 (m : Int)] 3)).alloc (.cells #[.string ⟨#[]⟩] 9)).frozen? ⟨w.heap.size + 1 + 1, 0, none⟩ = false := by simp [go_sem]
  generalize (((w.alloc (.cells #[.pointer (some ⟨g, 0, none⟩)] 46)).alloc (.cells #[.int .i64 (m : Int)] 3)).alloc (.cells #[.string ⟨#[]⟩] 9)) = w3 at *
  have hgn := hg'.out
  refine (ask_yes 26 _ g s a (fun k => k = g ∨ k = w.heap.size + 1 + 1) (fun w' => RB w' g s b false ∧ w'.cell? ⟨w.heap.size + 1 + 1, 0, none⟩ = some (.string str) ∧ w'.frozen? ⟨w.heap.size + 1 + 1, 0, none⟩ = false) w3 R3 (by omega) (by omega) hz enter26
    (fun i hi => by rcases hi with rfl | rfl <;> omega)
    (fun w1 h1 => (text1_yes ⟨w.heap.size + 1, 0, none⟩ ⟨w.heap.size, 0, none⟩ ⟨w.heap.size + 1 + 1, 0, none⟩ g s a m b false str ⟨#[]⟩ w1 (h1.cell (fun h => h) cm) (h1.cell (fun h => h) cr) (h1.cell (fun h => h) co) (by rw [h1.frozen (fun h => h) (lt_cell co)]; exact fo) (by (try dsimp only); omega) (by (try dsimp only); omega) (by (try dsimp only); omega) (by (try dsimp only); omega) (by (try dsimp only); omega) (R3.oth h1 (fun h => h)) ha hz hm hF))
    (fun w1 w2 h12 hT => ⟨hT.1.oth h12 (by (try dsimp only); omega), h12.cell (by (try dsimp only); omega) hT.2.1, by rw [h12.frozen (by (try dsimp only); omega) (lt_cell hT.2.1)]; exact hT.2.2⟩)).mono ?_
  rintro e w4 ⟨rfl, O4, R4, c4, f4⟩
  have O4' := Lib.hid (O3.then O4 (fun i hi => hi.elim .inl (fun h => .inr (by omega))))
  have hR4 := Lib.hid R4
  have hgn' := Lib.hid hgn
  clear R3 O3 cr cm co fo O4 R4 hgn z3
  go_wp2
  have c5 : (w4.setCell ⟨w.heap.size + 1 + 1, 0, none⟩ (.string str)).cell? ⟨w.heap.size + 1 + 1, 0, none⟩ = some (.string str) := World.cell?_setCell_same _ _ _ c4
  have hgn2 := hgn'.out
  have O5 := O4'.out.set (p := ⟨w.heap.size + 1 + 1, 0, none⟩) (.inr (by (try dsimp only); omega)) (.string str)
  have R5 := hR4.out.set (p := ⟨w.heap.size + 1 + 1, 0, none⟩) (by (try dsimp only); omega) (.string str)
  generalize w4.setCell ⟨w.heap.size + 1 + 1, 0, none⟩ (.string str) = w5 at *
  refine ⟨rfl, .string str, ?_, rfl, O5, R5⟩
  simp [results, Try.results19, go_sem, c5]
set_option maxHeartbeats 2000000 in
theorem text_no (g : Nat) (s : ByteArray) (a m : Nat) (w : World) (hR : RB w g s a false) (ha : a ≤ s.size) (hz : s.size ≤ 140737488351232) (hm : m ≤ 140737488351232) (hF : textF s a m = none) :
    Calls Try.prog 19 #[.pointer (some ⟨g, 0, none⟩), .int .i64 (m : Int)] w fun e w' => e = .returned (.string ⟨#[]⟩) ∧ Oth (· = g) w w' ∧ RB w' g s a true := by
  have hmf : ∀ (fn : Fn) (first cap : Array Value) (w : World), (Instr.makeFunc fn first cap).run Try.prog w = .ok (.func fn first cap) w := fun _ _ _ _ => rfl
  have hg : g < w.heap.size := lt_cell hR.c0
  have hR' := Lib.hid hR
  have hg' := Lib.hid hg
  clear hR hg
  go_enter Try.func19, Try.ntmps19
  go_wp2_with (fail)
  have R3 := (hR'.out.alloc (.cells #[.pointer (some ⟨g, 0, none⟩)] 46) |>.alloc (.cells #[.int .i64 (m : Int)] 3) |>.alloc (.cells #[.string ⟨#[]⟩] 9))
  have O3 : Oth (· = g) w (((w.alloc (.cells #[.pointer (some ⟨g, 0, none⟩)] 46)).alloc (.cells #[.int .i64 (m : Int)] 3)).alloc (.cells #[.string ⟨#[]⟩] 9)) := (((Oth.refl _ w).alloc _).alloc _).alloc _
  have z3 : (((w.alloc (.cells #[.pointer (some ⟨g, 0, none⟩)] 46)).alloc (.cells #[.int .i64 (m : Int)] 3)).alloc (.cells #[.string ⟨#[]⟩] 9)).heap.size = w.heap.size + 3 := by simp
  have cr : (((w.alloc (.cells #[.pointer (some ⟨g, 0, none⟩)] 46)).alloc (.cells #[.int .i64 (m : Int)] 3)).alloc (.cells #[.string ⟨#[]⟩] 9)).cell? ⟨w.heap.size, 0, none⟩ = some (.pointer (some ⟨g, 0, none⟩)) := by simp [go_sem]
  have cm : (((w.alloc (.cells #[.pointer (some ⟨g, 0, none⟩)] 46)).alloc (.cells #[.int .i64 (m : Int)] 3)).alloc (.cells #[.string ⟨#[]⟩] 9)).cell? ⟨w.heap.size + 1, 0, none⟩ = some (.int .i64 (m : Int)) := by simp [go_sem]
  have co : (((w.alloc (.cells #[.pointer (some ⟨g, 0, none⟩)] 46)).alloc (.cells #[.int .i64 (m : Int)] 3)).alloc (.cells #[.string ⟨#[]⟩] 9)).cell? ⟨w.heap.size + 1 + 1, 0, none⟩ = some (.string ⟨#[]⟩) := by simp [go_sem]
  have fo : (((w.alloc (.cells #[.pointer (some ⟨g, 0, none⟩)] 46)).alloc (.cells #[.int .i64 (m : Int)] 3)).alloc (.cells #[.string ⟨#[]⟩] 9)).frozen? ⟨w.heap.size + 1 + 1, 0, none⟩ = false := by simp [go_sem]
  generalize (((w.alloc (.cells #[.pointer (some ⟨g, 0, none⟩)] 46)).alloc (.cells #[.int .i64 (m : Int)] 3)).alloc (.cells #[.string ⟨#[]⟩] 9)) = w3 at *
  have hgn := hg'.out
  refine (ask_no 26 _ g s a (fun k => k = g ∨ k = w.heap.size + 1 + 1) (fun w' => w'.cell? ⟨w.heap.size + 1 + 1, 0, none⟩ = some (.string ⟨#[]⟩) ∧ w'.frozen? ⟨w.heap.size + 1 + 1, 0, none⟩ = false) w3 R3 (by omega) (by omega) hz (.inl rfl) enter26
    (fun i hi => by rcases hi with rfl | rfl <;> omega)
    (fun w1 h1 => (text1_no ⟨w.heap.size + 1, 0, none⟩ ⟨w.heap.size, 0, none⟩ ⟨w.heap.size + 1 + 1, 0, none⟩ g s a m false ⟨#[]⟩ w1 (h1.cell (fun h => h) cm) (h1.cell (fun h => h) cr) (h1.cell (fun h => h) co) (by rw [h1.frozen (fun h => h) (lt_cell co)]; exact fo) (by (try dsimp only); omega) (by (try dsimp only); omega) (by (try dsimp only); omega) (by (try dsimp only); omega) (by (try dsimp only); omega) (R3.oth h1 (fun h => h)) ha hz hm hF).mono (fun e w' h => ⟨h.1, h.2.1, ⟨_, _, h.2.2.1.choose_spec⟩, h.2.2.2⟩))
    (fun w1 w2 h12 hT => ⟨h12.cell (by (try dsimp only); omega) hT.1, by rw [h12.frozen (by (try dsimp only); omega) (lt_cell hT.1)]; exact hT.2⟩)).mono ?_
  rintro e w4 ⟨rfl, O4, R4, c4, f4⟩
  have O4' := Lib.hid (O3.then O4 (fun i hi => hi.elim .inl (fun h => .inr (by omega))))
  have hR4 := Lib.hid R4
  have hgn' := Lib.hid hgn
  clear R3 O3 cr cm co fo O4 R4 hgn z3
  go_wp2
  have c5 : (w4.setCell ⟨w.heap.size + 1 + 1, 0, none⟩ (.string ⟨#[]⟩)).cell? ⟨w.heap.size + 1 + 1, 0, none⟩ = some (.string ⟨#[]⟩) := World.cell?_setCell_same _ _ _ c4
  have hgn2 := hgn'.out
  have O5 := O4'.out.set (p := ⟨w.heap.size + 1 + 1, 0, none⟩) (.inr (by (try dsimp only); omega)) (.string ⟨#[]⟩)
  have R5 := hR4.out.set (p := ⟨w.heap.size + 1 + 1, 0, none⟩) (by (try dsimp only); omega) (.string ⟨#[]⟩)
  generalize w4.setCell ⟨w.heap.size + 1 + 1, 0, none⟩ (.string ⟨#[]⟩) = w5 at *
  refine ⟨rfl, .string ⟨#[]⟩, ?_, rfl, O5, R5⟩
  simp [results, Try.results19, go_sem, c5]
end Go.Proofs.Ytjmcdnhbiamokaa
