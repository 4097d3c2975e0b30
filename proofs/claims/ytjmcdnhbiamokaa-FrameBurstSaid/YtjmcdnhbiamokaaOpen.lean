/- frame.Open, against a plain function of the text. -/
import Derived.Test.YtjmcdnhbiamokaaText
import Derived.Test.YtjmcdnhbiamokaaShelf
import Derived.Test.YtjmcdnhbiamokaaPx1
namespace Go.Proofs.Ytjmcdnhbiamokaa
open Go.RowKit Go.Proofs.YtjmcdnhbiamokaaW.PrintWords
set_option linter.unusedVariables false
set_option linter.unusedSimpArgs false
/-- The magic. -/
def magicL : List UInt8 := [83, 77, 80, 72, 1]
/-- What is behind the magic. -/
def restOf (s : ByteArray) : ByteArray := ⟨(Lib.trimPrefix s.data.toList magicL).toArray⟩
/-- The first byte of a text, as a number. -/
def firstOf (s : ByteArray) : Nat := (s.data.toList.headD 0).toNat
/-- What Open tells of a text. -/
def openF (s : ByteArray) : Option (Int × ByteArray × Int) :=
  if Lib.hasPrefix s.data.toList magicL = true ∧ 0 < (restOf s).size ∧ 1 ≤ firstOf (restOf s) ∧ firstOf (restOf s) ≤ 8 then
    match textF (restOf s) 1 65536 with
    | none => some (0, ⟨#[]⟩, 2)
    | some (p, b) => if (restOf s).size = b + 4 then
        (P.frame_sealed.f (s.extract 0 (s.size - 4))).bind fun t => if t = s then some ((firstOf (restOf s) : Int), p, 0) else some (0, ⟨#[]⟩, 11)
      else some (0, ⟨#[]⟩, 2)
  else some (0, ⟨#[]⟩, 2)
theorem first_index (r : ByteArray) (h : 0 < r.size) : r[0].toNat = firstOf r := by
  obtain ⟨⟨l⟩⟩ := r
  cases l with
  | nil => cases h
  | cons c l => rfl
theorem rest_le (s : ByteArray) : (restOf s).size ≤ s.size := by
  show (Lib.trimPrefix s.data.toList magicL).toArray.size ≤ s.data.size
  unfold Lib.trimPrefix
  split <;> simp <;> omega
/-- The same, over what is behind the magic. -/
def openG (s q : ByteArray) (ok : Bool) : Option (Int × ByteArray × Int) :=
  if ok = true ∧ 0 < q.size ∧ 1 ≤ firstOf q ∧ firstOf q ≤ 8 then
    match textF q 1 65536 with
    | none => some (0, ⟨#[]⟩, 2)
    | some (p, b) => if q.size = b + 4 then
        (P.frame_sealed.f (s.extract 0 (s.size - 4))).bind fun t => if t = s then some ((firstOf q : Int), p, 0) else some (0, ⟨#[]⟩, 11)
      else some (0, ⟨#[]⟩, 2)
  else some (0, ⟨#[]⟩, 2)
theorem toList_inj {a b : ByteArray} (h : a.toList = b.toList) : a = b := by
  rw [ByteArray.toList_eq, ByteArray.toList_eq] at h
  obtain ⟨⟨l⟩⟩ := a
  obtain ⟨⟨m⟩⟩ := b
  obtain rfl : l = m := h
  rfl
theorem textF_le {s : ByteArray} {a m b : Nat} {str : ByteArray} (ha : a ≤ s.size) (hF : textF s a m = some (str, b)) : b ≤ s.size := by
  obtain ⟨v, c, _, h, _, rfl⟩ := textF_some hF
  exact h
set_option maxRecDepth 100000 in
set_option maxHeartbeats 4000000 in
theorem open_any (s : ByteArray) (hz : s.size ≤ 140737488351232) (r : Int × ByteArray × Int) (hF : openF s = some r) (w : World) :
    Calls Try.prog 12 #[.string s] w fun e w' => e = .returned (.tuple #[.int .i64 r.1, .string r.2.1, .int .i64 r.2.2]) ∧ Below w.heap.size w w' := by
  have T := Lib.hid (Try.strings_CutPrefix s ⟨#[83, 77, 80, 72, 1]⟩ w)
  have hF2 : openG s (restOf s) (Lib.hasPrefix s.data.toList magicL) = some r := hF
  have hqs := rest_le s
  clear hF
  go_enter Try.func12, Try.ntmps12
  go_wp2_with (fail)
  refine T.out.mono ?_
  rintro e w1 ⟨rfl, rfl⟩
  have hrs : (⟨(Lib.trimPrefix s.data.toList magicL).toArray⟩ : ByteArray) = restOf s := rfl
  have hml : ([83, 77, 80, 72, 1] : List UInt8) = magicL := rfl
  simp only [hml, hrs]
  generalize restOf s = q at *
  generalize Lib.hasPrefix s.data.toList magicL = ok at *
  clear T hrs hml
  by_cases hok : ok = true
  · subst hok
    by_cases hq : 0 < q.size
    · have hI : ∀ h, (q[0]'h).toNat = firstOf q := fun h => first_index q hq
      have hqe : (q.toList == ([] : List UInt8)) = false := by
        rw [ByteArray.toList_eq]
        obtain ⟨⟨l⟩⟩ := q
        cases l with
        | nil => cases hq
        | cons c l => rfl
      obtain ⟨n, hn⟩ : ∃ n, n = firstOf q := ⟨_, rfl⟩
      rw [← hn] at hI
      by_cases h1 : 1 ≤ n ∧ n ≤ 8
      · have h1a : ¬ (n : Int) < 1 := by omega
        have h1b : ¬ (n : Int) > 8 := by omega
        rw [openG, if_pos ⟨rfl, hq, by rw [← hn]; exact h1.1, by rw [← hn]; exact h1.2⟩, ← hn] at hF2
        have Hn := Lib.hid hn
        clear hn
        go_wp2_with (fail)
        have R2 : RB (w1.alloc (.cells #[.string q, .int .i64 1, .bool false] 48)) w1.heap.size q ((1 : Nat) : Int) false := heap_alloc_new w1 _
        have O2 : Oth (fun _ => False) w1 (w1.alloc (.cells #[.string q, .int .i64 1, .bool false] 48)) := (Oth.refl _ w1).alloc _
        have z2 : (w1.alloc (.cells #[.string q, .int .i64 1, .bool false] 48)).heap.size = w1.heap.size + 1 := by simp
        generalize w1.alloc (.cells #[.string q, .int .i64 1, .bool false] 48) = w2 at *
        cases hT : textF q 1 65536 with
        | none =>
          rw [hT] at hF2
          obtain rfl := Option.some.inj hF2
          refine (text_no w1.heap.size q 1 65536 w2 R2 hq (by omega) (by omega) hT).mono ?_
          rintro e w3 ⟨rfl, O3, R3⟩
          have c2 := R3.c2
          have B3 := Lib.hid (O2.mono (T := (· = w1.heap.size)) (fun _ h => h.elim) |>.trans O3 |>.below (B := w1.heap.size) (fun i h => Nat.le_of_eq h.symm) (Nat.le_refl _))
          clear R3 O3 R2 O2 z2 hT
          go_wp2
          exact ⟨rfl, _, by simp [results, Try.results12, go_sem], rfl, B3.out⟩
        | some pb =>
          obtain ⟨p, b⟩ := pb
          rw [hT] at hF2
          dsimp only at hF2
          refine (text_yes w1.heap.size q 1 65536 b p w2 R2 hq (by omega) (by omega) hT).mono ?_
          rintro e w3 ⟨rfl, O3, R3⟩
          have c1 := R3.c1
          have c2 := R3.c2
          have B3 := Lib.hid (O2.mono (T := (· = w1.heap.size)) (fun _ h => h.elim) |>.trans O3 |>.below (B := w1.heap.size) (fun i h => Nat.le_of_eq h.symm) (Nat.le_refl _))
          have hb : b ≤ q.size := textF_le hq hT
          have hw : IntKind.i64.wrap ((q.size : Int) - b) = (q.size : Int) - b := by rw [IntKind.wrap_i64]; omega
          clear R3 O3 R2 O2 z2 hT
          by_cases h4 : q.size = b + 4
          · rw [if_pos h4] at hF2
            have h4b : (((q.size : Int) - (b : Int)) != 4) = false := by simp; omega
            have h4c := Lib.hid h4
            have hs4 : 4 ≤ (s.size : Int) ∧ (s.size : Int) - 4 ≤ (s.size : Int) := by omega
            have ht4 : ((s.size : Int) - 4).toNat = s.size - 4 := by omega
            clear h4
            go_wp2_with (fail)
            obtain ⟨t, ht, hF3⟩ := Option.bind_eq_some_iff.1 hF2
            refine (P.frame_sealed.calls _ t w3 ht).mono ?_
            rintro e w4 ⟨rfl, B4⟩
            have B5 := Lib.hid (B3.out.trans (B4.mono B3.out.size))
            clear B4 B3 hF2 ht
            by_cases hts : t = s
            · rw [if_pos hts] at hF3
              obtain rfl := Option.some.inj hF3
              have htb : (t.toList == s.toList) = true := by simp [hts]
              go_wp2
              exact ⟨rfl, _, by simp [results, Try.results12, go_sem], rfl, B5.out⟩
            · rw [if_neg hts] at hF3
              obtain rfl := Option.some.inj hF3
              have htb : (t.toList == s.toList) = false := by simpa using fun h => hts (toList_inj h)
              go_wp2
              exact ⟨rfl, _, by simp [results, Try.results12, go_sem], rfl, B5.out⟩
          · rw [if_neg h4] at hF2
            obtain rfl := Option.some.inj hF2
            have h4b : (((q.size : Int) - (b : Int)) != 4) = true := by simp; omega
            clear h4
            go_wp2
            exact ⟨rfl, _, by simp [results, Try.results12, go_sem], rfl, B3.out⟩
      · have hF3 : r = (0, ⟨#[]⟩, 2) := by
          rw [openG, if_neg (fun h => h1 (by rw [hn]; exact h.2.2))] at hF2
          exact (Option.some.inj hF2).symm
        subst hF3
        by_cases h1a : n < 1
        · have h1b : (n : Int) < 1 := by omega
          clear hn hF2 h1
          go_wp2
          exact ⟨rfl, _, by simp [results, Try.results12, go_sem], rfl, Below.refl _ _⟩
        · have h1b : ¬ (n : Int) < 1 := by omega
          have h1c : (8 : Int) < n := by omega
          clear hn hF2 h1
          go_wp2
          exact ⟨rfl, _, by simp [results, Try.results12, go_sem], rfl, Below.refl _ _⟩
    · have hF3 : r = (0, ⟨#[]⟩, 2) := by
        rw [openG, if_neg (fun h => hq h.2.1)] at hF2
        exact (Option.some.inj hF2).symm
      subst hF3
      have hqe : (q.toList == ([] : List UInt8)) = true := by
        have : q = ⟨#[]⟩ := by
          obtain ⟨⟨l⟩⟩ := q
          cases l with
          | nil => rfl
          | cons c l => exact absurd (Nat.succ_pos _) hq
        rw [this, ByteArray.toList_eq]; rfl
      clear hF2
      go_wp2
      exact ⟨rfl, _, by simp [results, Try.results12, go_sem], rfl, Below.refl _ _⟩
  · have hF3 : r = (0, ⟨#[]⟩, 2) := by
      rw [openG, if_neg (fun h => hok h.1)] at hF2
      exact (Option.some.inj hF2).symm
    subst hF3
    have hok2 : ok = false := by simpa using hok
    subst hok2
    clear hF2
    go_wp2
    exact ⟨rfl, _, by simp [results, Try.results12, go_sem], rfl, Below.refl _ _⟩
end Go.Proofs.Ytjmcdnhbiamokaa
