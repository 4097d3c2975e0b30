import Derived.Test.YtbpcehbcbcojiaaBits
import Derived.Test.YtbpcehbcbcojiaaShelf
import Derived.Below
import Derived.WalkSpells
import Derived.Laws.Pointers
import Derived.RowKit3
import Derived.Lib.Hide
namespace Go.Proofs.Ytbpcehbcbcojiaa
open Go.RowKit
set_option linter.unusedVariables false
set_option linter.unusedSimpArgs false
def HI (n : Nat) : Nat := n / 18446744073709551616
def LO (n : Nat) : Nat := n % 18446744073709551616
def V (h l : Nat) : Nat := h * 18446744073709551616 + l
abbrev W64 (n : Nat) : Prop := n < 18446744073709551616
theorem HI_V {h l : Nat} (hl : W64 l) : HI (V h l) = h := by unfold HI V; omega
theorem LO_V {h l : Nat} (hl : W64 l) : LO (V h l) = l := by unfold LO V; omega
theorem V_HILO (n : Nat) : V (HI n) (LO n) = n := by unfold HI LO V; omega
theorem LO_lt (n : Nat) : LO n < 18446744073709551616 := by unfold LO; omega
theorem HI_lt {n : Nat} (h : n < 340282366920938463463374607431768211456) : HI n < 18446744073709551616 := by unfold HI; omega
abbrev U (h l : Nat) : Value := .agg #[.int .u64 (h : Int), .int .u64 (l : Int)]
theorem bcell {W w1 : World} (hb : Below W.heap.size W w1) : (∀ b o, b < W.heap.size → w1.cell? ⟨b, o, none⟩ = W.cell? ⟨b, o, none⟩) ∧ (∀ b o, b < W.heap.size → w1.frozen? ⟨b, o, none⟩ = W.frozen? ⟨b, o, none⟩) :=
 ⟨fun b o h => hb.cell (p := ⟨b, o, none⟩) h, fun b o h => hb.frozen (p := ⟨b, o, none⟩) h⟩
theorem btr {a b c : World} (h : Below a.heap.size a b) (k : Below b.heap.size b c) : Below a.heap.size a c := h.trans (k.mono h.size)
theorem ba {a b : World} (h : Below a.heap.size a b) (o : Obj) : Below a.heap.size a (b.alloc o) := h.alloc h.size _
theorem bset {a b : World} (h : Below a.heap.size a b) (v : Value) {p : Addr} (hp : a.heap.size ≤ p.block) : Below a.heap.size a (b.setCell p v) := h.setCell hp v
theorem bd {a b : World} (h : Below a.heap.size a b) : Below a.heap.size a b.drew := h.drew
theorem kept_no (h l : Nat) (w : World) : Calls Try.prog 29 #[U h l, .bool true] w fun e w' => e = .returned (.tuple #[U 0 0, .bool false]) ∧ Below w.heap.size w w' := by
 go_enter Try.func29, Try.ntmps29
 go_wp2
 refine bodyPost_ret (v := .tuple #[.agg #[.int .u64 0, .int .u64 0], .bool false]) (by simp [results, Try.results29, go_sem]) rfl ⟨rfl, ?_⟩
 exact ((Below.refl _ _).alloc (Nat.le_refl _) _).alloc (by simp) _
theorem kept_yes (h l : Nat) (w : World) : Calls Try.prog 29 #[U h l, .bool false] w fun e w' => e = .returned (.tuple #[U h l, .bool true]) ∧ Below w.heap.size w w' := by
 go_enter Try.func29, Try.ntmps29
 go_wp2
 refine bodyPost_ret (v := .tuple #[U h l, .bool true]) (by simp [results, Try.results29, go_sem]) rfl ⟨rfl, ?_⟩
 exact ((Below.refl _ _).alloc (Nat.le_refl _) _).alloc (by simp) _
theorem of_any (n : Nat) (w : World) : Calls Try.prog 18 #[.int .u64 (n : Int)] w fun e w' => e = .returned (U 0 n) ∧ Below w.heap.size w w' := by
 go_enter Try.func18, Try.ntmps18
 go_wp2
 refine bodyPost_ret (v := U 0 n) (by simp [results, Try.results18, go_sem]) rfl ⟨rfl, ?_⟩
 exact (Below.refl _ _).alloc (Nat.le_refl _) _
theorem full_any (a b : Nat) (h1 : W64 a) (h2 : W64 b) (w : World) : Calls Try.prog 19 #[.int .u64 (a : Int), .int .u64 (b : Int)] w fun e w' => e = .returned (U (HI (a * b)) (LO (a * b))) ∧ Below w.heap.size w w' := by
 unfold HI LO
 have H := fun w => Try.bits_Mul64 a b h1 h2 w
 generalize a * b / 18446744073709551616 = x at *
 generalize a * b % 18446744073709551616 = y at *
 go_enter Try.func19, Try.ntmps19
 go_wp2_with (go_at_call 30; refine (H _).mono ?_; rintro e w' ⟨rfl, rfl⟩)
 refine bodyPost_ret (v := U x y) (by simp [results, Try.results19, go_sem]) rfl ⟨rfl, ?_⟩
 exact (Below.refl _ _).alloc (Nat.le_refl _) _
theorem add_yes (ah al bh bl : Nat) (h1 : W64 ah) (h2 : W64 al) (h3 : W64 bh) (h4 : W64 bl) (w : World) (hv : V ah al + V bh bl < 340282366920938463463374607431768211456) :
  Calls Try.prog 16 #[U ah al, U bh bl] w fun e w' => e = .returned (.tuple #[U (HI (V ah al + V bh bl)) (LO (V ah al + V bh bl)), .bool true]) ∧ Below w.heap.size w w' := by
 obtain ⟨c, s, hc, e1, hs⟩ : ∃ c s, c ≤ 1 ∧ al + bl + 0 = s + 18446744073709551616 * c ∧ s < 18446744073709551616 := ⟨(al + bl) / 18446744073709551616, (al + bl) % 18446744073709551616, by omega, by omega, by omega⟩
 obtain ⟨t, e2, ht⟩ : ∃ t, ah + bh + c = t + 18446744073709551616 * 0 ∧ t < 18446744073709551616 := ⟨ah + bh + c, by omega, by unfold V at hv; omega⟩
 have E1 : LO (V ah al + V bh bl) = s := by unfold LO V; omega
 have E2 : HI (V ah al + V bh bl) = t := by unfold HI V; omega
 rw [E1, E2]
 have r1 : ∀ w, (callFunc 28 #[.int .u64 (al : Int), .int .u64 (bl : Int), .int .u64 0]).run Try.prog w = .ok (.value (.tuple #[.int .u64 (s : Int), .int .u64 (c : Int)])) w := run_add64 al bl 0 s c (by omega) e1 hs
 have r2 : ∀ w, (callFunc 28 #[.int .u64 (ah : Int), .int .u64 (bh : Int), .int .u64 (c : Int)]).run Try.prog w = .ok (.value (.tuple #[.int .u64 (t : Int), .int .u64 0])) w := run_add64 ah bh c t 0 hc e2 ht
 clear e1 e2 E1 E2 hv hc hs ht
 go_enter Try.func16, Try.ntmps16
 go_wp2_with (go_at_call 29; refine (kept_yes t s _).mono ?_; rintro e w' ⟨rfl, hb⟩; obtain ⟨hc, hf⟩ := bcell hb)
 have hz := hb.size
 simp at hz
 refine bodyPost_ret (v := .tuple #[U t s, .bool true]) (by simp [results, Try.results16, go_sem, hc]) rfl ⟨rfl, ?_⟩
 refine bset (bset ?_ _ (by simp; omega)) _ (by simp; omega)
 exact btr (ba (ba (ba (Below.refl _ _) _) _) _) hb
theorem add_no (ah al bh bl : Nat) (h1 : W64 ah) (h2 : W64 al) (h3 : W64 bh) (h4 : W64 bl) (w : World) (hv : 340282366920938463463374607431768211456 ≤ V ah al + V bh bl) :
  Calls Try.prog 16 #[U ah al, U bh bl] w fun e w' => e = .returned (.tuple #[U 0 0, .bool false]) ∧ Below w.heap.size w w' := by
 obtain ⟨c, s, hc, e1, hs⟩ : ∃ c s, c ≤ 1 ∧ al + bl + 0 = s + 18446744073709551616 * c ∧ s < 18446744073709551616 := ⟨(al + bl) / 18446744073709551616, (al + bl) % 18446744073709551616, by omega, by omega, by omega⟩
 obtain ⟨t, e2, ht⟩ : ∃ t, ah + bh + c = t + 18446744073709551616 * 1 ∧ t < 18446744073709551616 := ⟨ah + bh + c - 18446744073709551616, by unfold V at hv; omega, by omega⟩
 have r1 : ∀ w, (callFunc 28 #[.int .u64 (al : Int), .int .u64 (bl : Int), .int .u64 0]).run Try.prog w = .ok (.value (.tuple #[.int .u64 (s : Int), .int .u64 (c : Int)])) w := run_add64 al bl 0 s c (by omega) e1 hs
 have r2 : ∀ w, (callFunc 28 #[.int .u64 (ah : Int), .int .u64 (bh : Int), .int .u64 (c : Int)]).run Try.prog w = .ok (.value (.tuple #[.int .u64 (t : Int), .int .u64 1])) w := run_add64 ah bh c t 1 hc e2 ht
 clear e1 e2 hv hc hs ht
 go_enter Try.func16, Try.ntmps16
 go_wp2_with (go_at_call 29; refine (kept_no t s _).mono ?_; rintro e w' ⟨rfl, hb⟩; obtain ⟨hc, hf⟩ := bcell hb)
 have hz := hb.size
 simp at hz
 refine bodyPost_ret (v := .tuple #[U 0 0, .bool false]) (by simp [results, Try.results16, go_sem, hc]) rfl ⟨rfl, ?_⟩
 refine bset (bset ?_ _ (by simp; omega)) _ (by simp; omega)
 exact btr (ba (ba (ba (Below.refl _ _) _) _) _) hb
theorem sub_yes (ah al bh bl : Nat) (h1 : W64 ah) (h2 : W64 al) (h3 : W64 bh) (h4 : W64 bl) (w : World) (hv : V bh bl ≤ V ah al) :
  Calls Try.prog 22 #[U ah al, U bh bl] w fun e w' => e = .returned (.tuple #[U (HI (V ah al - V bh bl)) (LO (V ah al - V bh bl)), .bool true]) ∧ Below w.heap.size w w' := by
 obtain ⟨c, s, hc, e1, hs⟩ : ∃ c s, c ≤ 1 ∧ al + 18446744073709551616 * c = s + bl + 0 ∧ s < 18446744073709551616 := by
  by_cases h : al < bl
  ·
   exact ⟨1, al + 18446744073709551616 - bl, by omega, by omega, by omega⟩
  ·
   exact ⟨0, al - bl, by omega, by omega, by omega⟩
 obtain ⟨t, e2, ht⟩ : ∃ t, ah + 18446744073709551616 * 0 = t + bh + c ∧ t < 18446744073709551616 := ⟨ah - bh - c, by unfold V at hv; omega, by omega⟩
 have E1 : LO (V ah al - V bh bl) = s := by unfold LO V; omega
 have E2 : HI (V ah al - V bh bl) = t := by unfold HI V; omega
 rw [E1, E2]
 have r1 : ∀ w, (callFunc 35 #[.int .u64 (al : Int), .int .u64 (bl : Int), .int .u64 0]).run Try.prog w = .ok (.value (.tuple #[.int .u64 (s : Int), .int .u64 (c : Int)])) w := run_sub64' al bl 0 s c (by omega) hc e1 hs h2 h4
 have r2 : ∀ w, (callFunc 35 #[.int .u64 (ah : Int), .int .u64 (bh : Int), .int .u64 (c : Int)]).run Try.prog w = .ok (.value (.tuple #[.int .u64 (t : Int), .int .u64 0])) w := run_sub64' ah bh c t 0 hc (by omega) e2 ht h1 h3
 clear e1 e2 E1 E2 hv hc hs ht
 go_enter Try.func22, Try.ntmps22
 go_wp2_with (go_at_call 29; refine (kept_yes t s _).mono ?_; rintro e w' ⟨rfl, hb⟩; obtain ⟨hc, hf⟩ := bcell hb)
 have hz := hb.size
 simp at hz
 refine bodyPost_ret (v := .tuple #[U t s, .bool true]) (by simp [results, Try.results22, go_sem, hc]) rfl ⟨rfl, ?_⟩
 refine bset (bset ?_ _ (by simp; omega)) _ (by simp; omega)
 exact btr (ba (ba (ba (Below.refl _ _) _) _) _) hb
theorem sub_no (ah al bh bl : Nat) (h1 : W64 ah) (h2 : W64 al) (h3 : W64 bh) (h4 : W64 bl) (w : World) (hv : V ah al < V bh bl) :
  Calls Try.prog 22 #[U ah al, U bh bl] w fun e w' => e = .returned (.tuple #[U 0 0, .bool false]) ∧ Below w.heap.size w w' := by
 obtain ⟨c, s, hc, e1, hs⟩ : ∃ c s, c ≤ 1 ∧ al + 18446744073709551616 * c = s + bl + 0 ∧ s < 18446744073709551616 := by
  by_cases h : al < bl
  ·
   exact ⟨1, al + 18446744073709551616 - bl, by omega, by omega, by omega⟩
  ·
   exact ⟨0, al - bl, by omega, by omega, by omega⟩
 obtain ⟨t, e2, ht⟩ : ∃ t, ah + 18446744073709551616 * 1 = t + bh + c ∧ t < 18446744073709551616 := ⟨ah + 18446744073709551616 - bh - c, by omega, by unfold V at hv; omega⟩
 have r1 : ∀ w, (callFunc 35 #[.int .u64 (al : Int), .int .u64 (bl : Int), .int .u64 0]).run Try.prog w = .ok (.value (.tuple #[.int .u64 (s : Int), .int .u64 (c : Int)])) w := run_sub64' al bl 0 s c (by omega) hc e1 hs h2 h4
 have r2 : ∀ w, (callFunc 35 #[.int .u64 (ah : Int), .int .u64 (bh : Int), .int .u64 (c : Int)]).run Try.prog w = .ok (.value (.tuple #[.int .u64 (t : Int), .int .u64 1])) w := run_sub64' ah bh c t 1 hc (by omega) e2 ht h1 h3
 clear e1 e2 hv hc hs ht
 go_enter Try.func22, Try.ntmps22
 go_wp2_with (go_at_call 29; refine (kept_no t s _).mono ?_; rintro e w' ⟨rfl, hb⟩; obtain ⟨hc, hf⟩ := bcell hb)
 have hz := hb.size
 simp at hz
 refine bodyPost_ret (v := .tuple #[U 0 0, .bool false]) (by simp [results, Try.results22, go_sem, hc]) rfl ⟨rfl, ?_⟩
 refine bset (bset ?_ _ (by simp; omega)) _ (by simp; omega)
 exact btr (ba (ba (ba (Below.refl _ _) _) _) _) hb
end Go.Proofs.Ytbpcehbcbcojiaa
