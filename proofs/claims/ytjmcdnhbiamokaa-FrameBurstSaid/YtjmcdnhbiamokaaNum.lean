/- wire's Reader.number, against a plain function of the text and the place. -/
import Derived.Test.YtjmcdnhbiamokaaAskA
import Derived.Lib.VarintBits
namespace Go.Proofs.Ytjmcdnhbiamokaa
open Go.RowKit Go.Proofs.YtjmcdnhbiamokaaW.PrintWords
set_option linter.unusedVariables false
set_option linter.unusedSimpArgs false
/-- A number that begins at a place: its value, and the place behind it. -/
def nget (s : ByteArray) (a i out : Nat) : Nat → Option (Nat × Nat)
  | 0 => some (out, a)
  | f + 1 => if h : a < s.size then
      (if i < 9 ∨ s[a].toNat ≤ 1 then
        (if s[a].toNat < 128 then (if 0 < s[a].toNat ∨ i = 0 then some (out + s[a].toNat % 128 * 2 ^ (7 * i), a + 1) else none)
         else nget s (a + 1) (i + 1) (out + s[a].toNat % 128 * 2 ^ (7 * i)) f)
      else none) else none
def numF (s : ByteArray) (a most : Nat) : Option (Nat × Nat) := (nget s a 0 0 10).bind fun r => if r.1 ≤ most then some r else none
theorem nget_end (s : ByteArray) (a i o f : Nat) (h : ¬ a < s.size) : nget s a i o (f + 1) = none := by rw [nget, dif_neg h]
theorem nget_big (s : ByteArray) (a i o f : Nat) (h : a < s.size) (h1 : ¬ (i < 9 ∨ s[a].toNat ≤ 1)) : nget s a i o (f + 1) = none := by rw [nget, dif_pos h, if_neg h1]
theorem nget_last (s : ByteArray) (a i o f : Nat) (h : a < s.size) (h1 : i < 9 ∨ s[a].toNat ≤ 1) (h2 : s[a].toNat < 128) (h3 : 0 < s[a].toNat ∨ i = 0) : nget s a i o (f + 1) = some (o + s[a].toNat % 128 * 2 ^ (7 * i), a + 1) := by rw [nget, dif_pos h, if_pos h1, if_pos h2, if_pos h3]
theorem nget_zero (s : ByteArray) (a i o f : Nat) (h : a < s.size) (h1 : i < 9 ∨ s[a].toNat ≤ 1) (h2 : s[a].toNat < 128) (h3 : ¬ (0 < s[a].toNat ∨ i = 0)) : nget s a i o (f + 1) = none := by rw [nget, dif_pos h, if_pos h1, if_pos h2, if_neg h3]
theorem nget_on (s : ByteArray) (a i o f : Nat) (h : a < s.size) (h1 : i < 9 ∨ s[a].toNat ≤ 1) (h2 : ¬ s[a].toNat < 128) : nget s a i o (f + 1) = nget s (a + 1) (i + 1) (o + s[a].toNat % 128 * 2 ^ (7 * i)) f := by rw [nget, dif_pos h, if_pos h1, if_neg h2]
theorem part_lt (n k : Nat) (hk : k < 9 ∨ (k = 9 ∧ n ≤ 1)) : n % 128 * 2 ^ (7 * k) < 18446744073709551616 := by
  rcases hk with hk | ⟨rfl, h⟩
  · have h1 : n % 128 * 2 ^ (7 * k) < 128 * 2 ^ (7 * k) := Nat.mul_lt_mul_of_pos_right (Nat.mod_lt _ (by decide)) (Nat.pow_pos (by decide))
    have h2 : (2 : Nat) ^ (7 * k) ≤ 2 ^ 56 := Nat.pow_le_pow_right (by decide) (by omega)
    omega
  · have : (2 : Nat) ^ (7 * 9) = 9223372036854775808 := by decide
    rw [this]; omega
theorem join_part (n o k : Nat) (hn : n < 256) (hk : k < 9 ∨ (k = 9 ∧ n ≤ 1)) (ho : o < 2 ^ (7 * k)) :
    bits .or .u64 (o : Int) (IntKind.u64.wrap (IntKind.u64.wrap (bits .and .u8 (n : Int) 127) * 2 ^ (7 * k))) = ((o + n % 128 * 2 ^ (7 * k) : Nat) : Int) := by
  have h1 := part_lt n k hk
  rw [u8_and127 _ (by omega) (by omega), wraps_u64 ((n : Int) % 128) (by omega) (by omega)]
  have e : (n : Int) % 128 * 2 ^ (7 * k) = ((n % 128 * 2 ^ (7 * k) : Nat) : Int) := by push_cast; rfl
  rw [e, wraps_u64 _ (by omega) (by omega)]
  have h2 : (2 : Nat) ^ (7 * k) ≤ 2 ^ 63 := Nat.pow_le_pow_right (by decide) (by omega)
  have h3 : (o : Int) < 2 ^ (7 * k) := by exact_mod_cast ho
  rw [bits_join_low .u64 64 (by decide) wraps_u64 (7 * k) _ _ (by omega) h3 (by omega) (by omega) ?_ (by omega)]
  · push_cast; rfl
  · have : ((n % 128 * 2 ^ (7 * k) : Nat) : Int) % ((2 ^ (7 * k) : Nat) : Int) = ((n % 128 * 2 ^ (7 * k) % 2 ^ (7 * k) : Nat) : Int) := by rw [Int.natCast_emod]
    rw [Nat.mul_mod_left] at this
    have e2 : ((2 ^ (7 * k) : Nat) : Int) = (2 : Int) ^ (7 * k) := by push_cast; rfl
    rw [← e2]; exact this
theorem join_lt (n o k : Nat) (ho : o < 2 ^ (7 * k)) : o + n % 128 * 2 ^ (7 * k) < 2 ^ (7 * (k + 1)) := by
  have h1 : n % 128 * 2 ^ (7 * k) ≤ 127 * 2 ^ (7 * k) := Nat.mul_le_mul_right _ (by omega)
  have : (2 : Nat) ^ (7 * (k + 1)) = 128 * 2 ^ (7 * k) := by rw [show 7 * (k + 1) = 7 * k + 7 by omega, Nat.pow_add]; omega
  omega
/-- take of one byte. -/
theorem take_one (g : Nat) (s : ByteArray) (a : Nat) (l : Bool) (w : World) (h : RB w g s a l) (hs : a < s.size) (hz : s.size ≤ 140737488351232) :
    Calls Try.prog 28 #[.pointer (some ⟨g, 0, none⟩), .int .i64 1] w fun e w' => e = .returned (.string ⟨#[s[a]]⟩) ∧ RB w' g s ((a + 1 : Nat) : Int) l ∧ Oth (· = g) w w' := by
  refine (take_yes g s a 1 l w h (by omega) (by omega) (by omega) hz (by omega)).mono ?_
  rintro e w' ⟨rfl, hR, w2, D1, D2⟩
  refine ⟨?_, by exact_mod_cast hR, (Oth.drawn D1).trans ((Oth.set (S := (· = g)) (Oth.refl _ _) (.inl rfl) _).trans (Oth.drawn D2))⟩
  congr 2
  rw [show ((a : Int) + 1).toNat = a + 1 by omega, Int.toNat_natCast]
  apply ByteArray.ext
  apply Array.ext
  · simp; omega
  · intro i h1 h2
    simp at h1 h2
    simp only [ByteArray.data_extract, Array.getElem_extract]
    obtain rfl : i = 0 := by omega
    rfl
set_option maxHeartbeats 2000000 in
/-- What number leaves: its value and the place behind it, or the panic of what is lost. -/
def NumR (g : Nat) (s : ByteArray) (a most : Nat) (l : Bool) (e : Ending) (w' : World) : Prop :=
  match numF s a most with
  | some (v, b) => e = .returned (.int .u64 (v : Int)) ∧ RB w' g s (b : Int) l
  | none => e = .panicked [lostP] ∧ ∃ b : Nat, b ≤ s.size ∧ RB w' g s (b : Int) l
theorem NumR.yes {g : Nat} {s : ByteArray} {a most v b : Nat} {l : Bool} {w' : World} (h : numF s a most = some (v, b)) (hR : RB w' g s (b : Int) l) : NumR g s a most l (.returned (.int .u64 (v : Int))) w' := by
  unfold NumR; rw [h]; exact ⟨rfl, hR⟩
theorem NumR.no {g : Nat} {s : ByteArray} {a most b : Nat} {l : Bool} {w' : World} (h : numF s a most = none) (hb : b ≤ s.size) (hR : RB w' g s (b : Int) l) : NumR g s a most l (.panicked [lostP]) w' := by
  unfold NumR; rw [h]; exact ⟨rfl, b, hb, hR⟩
set_option maxRecDepth 100000 in
set_option maxHeartbeats 4000000 in
theorem number_any (g : Nat) (s : ByteArray) (a most : Nat) (l : Bool) (w : World) (h : RB w g s a l) (ha : a ≤ s.size) (hz : s.size ≤ 140737488351232) (hm : most < 18446744073709551616) :
    Calls Try.prog 29 #[.pointer (some ⟨g, 0, none⟩), .int .u64 (most : Int)] w fun e w' => Oth (· = g) w w' ∧ NumR g s a most l e w' := by
  have hR := Lib.hid h
  clear h
  go_enter Try.func29, Try.ntmps29
  go_wp2
  go_loopw [5, 8] (fun n i wr => ∃ k o : Nat, k ≤ 9 ∧ a + k ≤ s.size ∧ o < 2 ^ (7 * k) ∧ i = .int .i64 k ∧ n = .int .u64 (o : Int) ∧ nget s (a + k) k o (9 - k + 1) = nget s a 0 0 10 ∧ RB wr g s ((a + k : Nat) : Int) l ∧ Oth (· = g) w wr) (fun _ i _ => 10 - (intOf i).toNat)
  case atStart => exact ⟨0, 0, by omega, ha, by decide, rfl, rfl, rfl, hR.out, Oth.refl _ _⟩
  case round =>
    obtain ⟨k, o, hk, hak, ho, rfl, rfl, hN, hR1, hO1⟩ := hrel
    have hk10 : (k : Int) < 10 := by omega
    by_cases hlt : a + k < s.size
    · obtain ⟨c, hc⟩ : ∃ c : UInt8, s[a + k] = c := ⟨_, rfl⟩
      obtain ⟨n, hn⟩ : ∃ n : Nat, n = c.toNat := ⟨_, rfl⟩
      have hn256 : n < 256 := by rw [hn]; exact c.toNat_lt
      have hcn : s[a + k].toNat = n := by rw [hc, hn]
      obtain ⟨m, hmd⟩ : ∃ m : Nat, m = o + n % 128 * 2 ^ (7 * k) := ⟨_, rfl⟩
      have E := nget_big s (a + k) k o (9 - k) hlt
      have L := nget_last s (a + k) k o (9 - k) hlt
      have Z := nget_zero s (a + k) k o (9 - k) hlt
      have G := nget_on s (a + k) k o (9 - k) hlt
      rw [hcn] at E L Z G
      rw [← hmd] at L G
      rw [hN] at E L Z G
      have HE := Lib.hid E
      have HL := Lib.hid L
      have HZ := Lib.hid Z
      have HG := Lib.hid G
      have Hn := Lib.hid hn
      have Hm := Lib.hid hmd
      have Ho := Lib.hid ho
      have hR1' := Lib.hid hR1
      have hO1' := Lib.hid hO1
      have hml : m < 2 ^ (7 * (k + 1)) := by rw [hmd]; exact join_lt n o k ho
      have Hml := Lib.hid hml
      have hI : ∀ h, (({ data := #[c] } : ByteArray)[0]'h).toNat = n := by intro h; rw [hn]; rfl
      have hJ : k < 9 ∨ (k = 9 ∧ n ≤ 1) → bits .or .u64 (o : Int) (IntKind.u64.wrap (IntKind.u64.wrap (bits .and .u8 (n : Int) 127) * 2 ^ (7 * k))) = (m : Int) := fun hk => by rw [hmd]; exact join_part n o k hn256 hk ho
      have HJ := Lib.hid hJ
      have T1 := Lib.hid (take_one g s (a + k) l wr hR1 hlt hz)
      rw [hc] at T1
      clear hN hR1 hO1 hcn E L Z G hn hmd ho hml hJ hc
      go_wp2_with (fail)
      refine T1.out.mono ?_
      rintro e w2 ⟨rfl, hR2, hO2⟩
      have hR2' := Lib.hid hR2
      have hO2' := Lib.hid (hO1'.out.trans hO2)
      clear hR2 hO2 hO1' hR1' T1
      by_cases h9 : k < 9
      · have h9i : (k : Int) < 9 := by omega
        have hJ := HJ.out (.inl h9)
        by_cases h128 : n < 128
        · by_cases hp : 0 < n
          · have hF := Lib.hid (HL.out (.inl h9) h128 (.inl hp))
            clear HE HL HZ HG
            by_cases hmm : m ≤ most
            · have hF2 := Lib.hid (show numF s a most = some (m, a + k + 1) by rw [numF, hF.out]; exact if_pos hmm)
              have hmi : (m : Int) ≤ most := by omega
              clear hF
              go_wp2_with (go_at_call 27; first | (refine (must_yes _).mono ?_; rintro e w' ⟨rfl, rfl⟩) | (refine (must_no _).mono ?_; rintro e w' ⟨rfl, rfl⟩))
              go_ret
              exact ⟨hO2'.out, NumR.yes hF2.out hR2'.out⟩
            · have hF2 := Lib.hid (show numF s a most = none by rw [numF, hF.out]; exact if_neg hmm)
              have hmi : ¬ (m : Int) ≤ most := by omega
              clear hF
              go_wp2_with (go_at_call 27; first | (refine (must_yes _).mono ?_; rintro e w' ⟨rfl, rfl⟩) | (refine (must_no _).mono ?_; rintro e w' ⟨rfl, rfl⟩))
              exact ⟨rfl, hO2'.out, NumR.no hF2.out hlt hR2'.out⟩
          · obtain rfl : n = 0 := by omega
            by_cases hk0 : k = 0
            · have hF := Lib.hid (HL.out (.inl h9) h128 (.inr hk0))
              obtain rfl := hk0
              obtain rfl : o = 0 := by have := Ho.out; simp at this; exact this
              obtain rfl : m = 0 := by have := Hm.out; simpa using this
              have hJ0 : bits .or .u64 0 (IntKind.u64.wrap (IntKind.u64.wrap (bits .and .u8 0 127))) = 0 := by decide +kernel
              have hF2 := Lib.hid (show numF s a most = some (0, a + 0 + 1) by rw [numF, hF.out]; simp)
              clear HE HL HZ HG hJ HJ hF
              go_wp2_with (go_at_call 27; first | (refine (must_yes _).mono ?_; rintro e w' ⟨rfl, rfl⟩) | (refine (must_no _).mono ?_; rintro e w' ⟨rfl, rfl⟩))
              go_ret
              exact ⟨hO2'.out, NumR.yes hF2.out hR2'.out⟩
            · have hF := Lib.hid (HZ.out (.inl h9) h128 (by omega))
              have hkb : ((k : Int) == 0) = false := by simp; omega
              clear HE HL HZ HG
              have hF2 := Lib.hid (show numF s a most = none by rw [numF, hF.out]; rfl)
              clear hF
              go_wp2_with (go_at_call 27; first | (refine (must_yes _).mono ?_; rintro e w' ⟨rfl, rfl⟩) | (refine (must_no _).mono ?_; rintro e w' ⟨rfl, rfl⟩))
              exact ⟨rfl, hO2'.out, NumR.no hF2.out hlt hR2'.out⟩
        · have hF := Lib.hid (HG.out (.inl h9) h128)
          clear HE HL HZ HG
          go_wp2_with (go_at_call 27; first | (refine (must_yes _).mono ?_; rintro e w' ⟨rfl, rfl⟩) | (refine (must_no _).mono ?_; rintro e w' ⟨rfl, rfl⟩))
          go_roundw
          case rel => exact ⟨k + 1, m, by omega, hlt, Hml.out, by go_num, rfl, by rw [show 9 - (k + 1) + 1 = 9 - k by omega, show a + (k + 1) = a + k + 1 by omega]; exact hF.out.symm, by rw [show a + (k + 1) = a + k + 1 by omega]; exact hR2'.out, hO2'.out⟩
          case measure => simp [intOf]; omega
      · have hk9 : k = 9 := by omega
        have hkb : ((k : Int) == 0) = false := by simp; omega
        have h9i : ¬ (k : Int) < 9 := by omega
        by_cases h1 : n ≤ 1
        · have hJ := HJ.out (.inr ⟨hk9, h1⟩)
          have h1i : (n : Int) ≤ 1 := by omega
          have Hk9 := Lib.hid hk9
          clear hk9 h9
          have h128 : n < 128 := by omega
          by_cases hp : 0 < n
          · have hF := Lib.hid (HL.out (.inr h1) h128 (.inl hp))
            clear HE HL HZ HG
            by_cases hmm : m ≤ most
            · have hF2 := Lib.hid (show numF s a most = some (m, a + k + 1) by rw [numF, hF.out]; exact if_pos hmm)
              have hmi : (m : Int) ≤ most := by omega
              clear hF
              go_wp2_with (go_at_call 27; first | (refine (must_yes _).mono ?_; rintro e w' ⟨rfl, rfl⟩) | (refine (must_no _).mono ?_; rintro e w' ⟨rfl, rfl⟩))
              go_ret
              exact ⟨hO2'.out, NumR.yes hF2.out hR2'.out⟩
            · have hF2 := Lib.hid (show numF s a most = none by rw [numF, hF.out]; exact if_neg hmm)
              have hmi : ¬ (m : Int) ≤ most := by omega
              clear hF
              go_wp2_with (go_at_call 27; first | (refine (must_yes _).mono ?_; rintro e w' ⟨rfl, rfl⟩) | (refine (must_no _).mono ?_; rintro e w' ⟨rfl, rfl⟩))
              exact ⟨rfl, hO2'.out, NumR.no hF2.out hlt hR2'.out⟩
          · have hF := Lib.hid (HZ.out (.inr h1) h128 (by have := Hk9.out; omega))
            clear HE HL HZ HG
            have hF2 := Lib.hid (show numF s a most = none by rw [numF, hF.out]; rfl)
            clear hF
            go_wp2_with (go_at_call 27; first | (refine (must_yes _).mono ?_; rintro e w' ⟨rfl, rfl⟩) | (refine (must_no _).mono ?_; rintro e w' ⟨rfl, rfl⟩))
            exact ⟨rfl, hO2'.out, NumR.no hF2.out hlt hR2'.out⟩
        · have hF := Lib.hid (HE.out (by omega))
          have Hk9 := Lib.hid hk9
          clear hk9 h9
          have h1i : ¬ (n : Int) ≤ 1 := by omega
          clear HE HL HZ HG
          have hF2 := Lib.hid (show numF s a most = none by rw [numF, hF.out]; rfl)
          clear hF
          go_wp2_with (fail)
          rw [decide_eq_false (show ¬ (k : Int) < 9 by omega), decide_eq_false (show ¬ (n : Int) ≤ 1 by omega)]
          refine (must_no _).mono ?_
          rintro e w' ⟨rfl, rfl⟩
          exact ⟨rfl, hO2'.out, NumR.no hF2.out hlt hR2'.out⟩
    · have hF := Lib.hid (nget_end s (a + k) k o (9 - k) hlt)
      rw [hN] at hF
      have hF2 := Lib.hid (show numF s a most = none by rw [numF, hF.out]; rfl)
      have hR1' := Lib.hid hR1
      have hO1' := Lib.hid hO1
      clear hF hN hR1 hO1
      go_wp2_with (fail)
      refine (take_no g s _ 1 l _ hR1'.out (by omega) (by omega) (by omega) hz (by omega)).mono ?_
      rintro e w2 ⟨rfl, hD⟩
      exact ⟨rfl, hO1'.out.trans (Oth.drawn hD), NumR.no hF2.out hak (hR1'.out.drawn hD)⟩
end Go.Proofs.Ytjmcdnhbiamokaa
