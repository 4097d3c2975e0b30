import Derived.Test.YthgacimoifbhiaaPureTellsD
import Derived.Test.YthgacimoifbhiaaTellsW
namespace Go.Proofs.Ythgacimoifbhiaa.Pure
open Go.RowKit Go.Proofs.Ythgacimoifbhiaa Go.Proofs.Ythgacimoifbhiaa.Q Go.Proofs.Ythgacimoifbhiaa.DrawP Go.Proofs.YthgacimoifbhiaaW.PrintWords Go.Proofs.YthgacimoifbhiaaW.PrintLast
set_option linter.unusedVariables false
set_option linter.unusedSimpArgs false
theorem awake0 : samphirelaw16_awake.f 30 = some true := by decide +kernel
theorem awake {k : Nat} (h : 30 ≤ k) : samphirelaw16_awake.f k = some true := by
 obtain ⟨j, rfl⟩ : ∃ j, k = 30 + j := ⟨k - 30, by omega⟩
 exact more_rounds samphirelaw16_awake.mono 30 j true awake0
theorem small_loop (l : List ByteArray) (hl : l.length ≤ 60) (m : Nat) : ∀ (i k : Nat), i + m = l.length → m < k → ∃ b, samphireref16_Small.l0 k l (i : Int) = some b := by
 induction m with
 | zero =>
  intro i k hi hk
  obtain ⟨k, rfl⟩ : ∃ j, k = j + 1 := ⟨k - 1, by omega⟩
  exact ⟨true, by rw [samphireref16_Small.l0]; exact iff_ (by omega) rfl⟩
 | succ m ih =>
  intro i k hi hk
  obtain ⟨k, rfl⟩ : ∃ j, k = j + 1 := ⟨k - 1, by omega⟩
  obtain ⟨b, e⟩ := ih (i + 1) k (by omega) (by omega)
  have ew : wrap64 ((i : Int) + 1) = ((i + 1 : Nat) : Int) := by unfold wrap64; omega
  by_cases h : ((rdOf ByteArray.empty l (i : Int)).size : Int) > 100
  ·
   exact ⟨false, by rw [samphireref16_Small.l0]; exact ift (by omega) (ift (by omega) (ift h rfl))⟩
  ·
   exact ⟨b, by rw [samphireref16_Small.l0]; exact ift (by omega) (ift (by omega) (iff_ h (by rw [ew]; exact e)))⟩
theorem small_eq (l : List ByteArray) (k : Nat) (hk : 70 < k) : ∃ b, samphireref16_Small.f k l = some b ∧ (b = true → l.length ≤ 60) := by
 unfold samphireref16_Small.f
 by_cases h : l.length ≤ 60
 ·
  obtain ⟨b, e⟩ := small_loop l h l.length 0 k (by omega) (by omega)
  exact ⟨b, iff_ (by omega) e, fun _ => h⟩
 ·
  exact ⟨false, ift (by omega) rfl, fun g => by cases g⟩
theorem same_loop (l : List ByteArray) (hl : l.length ≤ 1000) (m : Nat) : ∀ (i k : Nat), i + m = l.length → m < k → samphireref16_Strings.l0 k l l (i : Int) = some true := by
 induction m with
 | zero =>
  intro i k hi hk
  obtain ⟨k, rfl⟩ : ∃ j, k = j + 1 := ⟨k - 1, by omega⟩
  simp only [samphireref16_Strings.l0]
  rw [if_neg (by omega)]
 | succ m ih =>
  intro i k hi hk
  obtain ⟨k, rfl⟩ : ∃ j, k = j + 1 := ⟨k - 1, by omega⟩
  simp only [samphireref16_Strings.l0]
  rw [if_pos (by omega), if_pos (by omega), if_pos (by omega), if_pos trivial]
  rw [show wrap64 ((i : Int) + 1) = ((i + 1 : Nat) : Int) by unfold wrap64; omega]
  exact ih (i + 1) k (by omega) (by omega)
theorem same_self (l : List ByteArray) (hl : l.length ≤ 1000) (k : Nat) (hk : 2000 ≤ k) : samphireref16_Strings.f k l l = some true := by
 unfold samphireref16_Strings.f
 rw [if_pos rfl]
 exact same_loop l hl l.length 0 k (by omega) (by omega)
theorem reserveTells_walk (K N : Int) (A0 : Option Addr) (c0 : Nat) (X : List ByteArray) (K2 M : Int) (A1 : Option Addr) (c1 : Nat) (Y : List ByteArray) (key : ByteArray) (A : Option Addr) (c : Nat) (l : List Int) (a : Int) (w : World)
  (wK : (Lit.int .i64 K).wf = true) (wN : (Lit.int .u64 N).wf = true) (hX : Kd.C Kd.string w A0 X.length X) (hc0 : X.length ≤ c0)
  (wK2 : (Lit.int .i64 K2).wf = true) (wM : (Lit.int .u64 M).wf = true) (hY : Kd.C Kd.string w A1 Y.length Y) (hc1 : Y.length ≤ c1)
  (hkey : key.size ≤ 140737488351232) (hA : Kd.C (Kd.int .u64) w A l.length l) (hc : l.length ≤ c) (hw : ∀ x ∈ l, (Lit.int .u64 x).wf = true) (wa : (Lit.int .i64 a).wf = true) :
  Calls Try.prog 5 (tellsArgs K N A0 c0 X K2 M A1 c1 Y key A c l a) w fun e w' => e = .returned (.bool true) ∧ Below w.heap.size w w' := by
 have hN : 0 ≤ N ∧ N < 18446744073709551616 := by
  simp [Lit.wf, IntKind.min, IntKind.max, IntKind.signed, IntKind.bits] at wN
  omega
 have hM : 0 ≤ M ∧ M < 18446744073709551616 := by
  simp [Lit.wf, IntKind.min, IntKind.max, IntKind.signed, IntKind.bits] at wM
  omega
 have hK : -9223372036854775808 ≤ K ∧ K ≤ 9223372036854775807 := by
  simp [Lit.wf, IntKind.min, IntKind.max, IntKind.signed, IntKind.bits] at wK
  omega
 have hK2 : -9223372036854775808 ≤ K2 ∧ K2 ≤ 9223372036854775807 := by
  simp [Lit.wf, IntKind.min, IntKind.max, IntKind.signed, IntKind.bits] at wK2
  omega
 obtain ⟨b1, s1, t1⟩ := small_eq X 20000 (by omega)
 obtain ⟨b2, s2, t2⟩ := small_eq Y 20000 (by omega)
 have haw := awake (k := 20000) (by omega)
 have out := tells_out 20000 K N A0 c0 X K2 M A1 c1 Y key A c l a w hX hc0 hY hc1 haw
 cases b1 with
 | false => exact out (.inl s1)
 | true =>
  cases b2 with
  | false => exact out (.inr ⟨s1, .inl s2⟩)
  | true =>
   by_cases hk : 100 < key.size
   ·
    exact out (.inr ⟨s1, .inr ⟨s2, .inl hk⟩⟩)
   by_cases hl : 60 < l.length
   ·
    exact out (.inr ⟨s1, .inr ⟨s2, .inr ⟨by omega, hl⟩⟩⟩)
   have hX6 := t1 rfl
   have hY6 := t2 rfl
   obtain ⟨xs, hxs⟩ := words_of l hw
   obtain ⟨r1, r2, r3, r5, r6, ra, rl, rr⟩ := add_two 20000 (Nat.le_refl _) K N X hX6 hN.1 hN.2 hK key l xs hxs (by omega) a
   obtain ⟨m1, m2, m3, m5, m6, ml, mm⟩ := merge_two 20000 (Nat.le_refl _) K N A0 c0 X K2 M A1 c1 Y A c l xs a w hX6 hN.1 hN.2 hK hY6 hM.1 hM.2 hK2 hxs (by omega) hX hc0 hY hc1 hA hc
   exact tells_in 20000 K N A0 c0 X K2 M A1 c1 Y key A c l a w hX hc0 hY hc1 haw s1 s2 (by omega) (by omega) r1 r2 r3 r5 r6 m1 m2 m3 m5 m6 (rightB K N X)
    (fun w1 hb => add_cp 20000 K N A0 c0 X key A c l a w w1 hX hc0 hA hc hb ra)
    (fun w1 hb => radd_cp K N A0 c0 X key A c l a w w1 hX hc0 hA hc hb (fun P0 P2 w2 g0 g2 => rr A0 c0 A c P0 P2 w2 g0 g2))
    (fun w1 hb => (mm w1 hb).1) (fun w1 hb => (mm w1 hb).2)
    (right_eq K N X hX6 hN.1 hN.2) (right_alike K N X (by omega) hN.1 hN.2 hK 20000 (by omega)) (same_self r3 (by omega) 20000 (by omega)) (same_self m3 ml 20000 (by omega))
end Go.Proofs.Ythgacimoifbhiaa.Pure
