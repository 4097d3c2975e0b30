import Derived.Test.YthgacimoifbhiaaM
import Derived.Test.YthgacimoifbhiaaShelf
namespace Go.Proofs.Ythgacimoifbhiaa.Q
open Go.RowKit Go.Proofs.YthgacimoifbhiaaW.PrintWords Go.Proofs.YthgacimoifbhiaaW.PrintLast
set_option linter.unusedVariables false
def bits_Len64.f (a0 : Int) : Option (Int) := if 0 ≤ a0 ∧ a0 ≤ 18446744073709551615 then some (Lib.bitLen a0.toNat : Nat) else none
theorem bits_Len64.calls (a0 : Int) (r : Int) (w : World) (h : bits_Len64.f a0 = some r) : Calls Try.prog 30 #[.int .u64 a0] w fun e w' => e = .returned (.int .i64 r) ∧ Drawn0 w w' := by
 unfold bits_Len64.f at h
 split at h
 ·
  rename_i hc
  obtain rfl := Option.some.inj h
  refine (Try.bits_Len64 a0 w hc.1 hc.2).mono ?_
  rintro e w' ⟨rfl, rfl⟩
  exact ⟨rfl, Drawn0.refl _⟩
 ·
  cases h
def clone_.f (l0 : List ByteArray) : Option (List ByteArray) := if l0.length * 16 ≤ 140737488355328 then some l0 else none
theorem clone_.calls (A0 : Option Addr) (c0 : Nat) (l0 : List ByteArray) (r : List ByteArray) (w : World) (hr0 : Kd.C Kd.string w A0 l0.length l0) (hc0 : l0.length ≤ c0) (h : clone_.f l0 = some r) :
  Calls Try.prog 22 #[.slice A0 l0.length c0] w fun e w' => ∃ v0_ : Value, e = .returned (v0_) ∧ Kd.R Kd.string 9 w' w.heap.size (fun _ => True) v0_ r ∧ Below w.heap.size w w' := by
 unfold clone_.f at h
 split at h
 ·
  rename_i hsz
  obtain rfl := Option.some.inj h
  cases A0 with
  | none =>
   refine (Try.slices_Clone_string_nil l0.length c0 w).mono ?_
   rintro e w' ⟨rfl, rfl⟩
   have hn : l0 = [] := by
    rcases Nat.eq_zero_or_pos l0.length with h0 | h0
    ·
     exact List.eq_nil_of_length_eq_zero h0
    ·
     obtain ⟨ad, hh, _⟩ := hr0.2.2 h0
     cases hh
   subst hn
   exact ⟨_, rfl, Kd.R_nil _ _ _ _ _, Below.refl _ _⟩
  | some ad =>
   have fin : ∀ (v' : Value) (w' : World), w'.ownsRow w.heap.size 9 1 v' l0.length (l0.map Value.string) → Kd.R Kd.string 9 w' w.heap.size (fun _ => True) v' l0 := by
    intro v' w' ho
    exact Kd.R_of_own (enc := Value.string) (h1 := fun _ => rfl) ho (fun _ _ => trivial)
   rcases Nat.eq_zero_or_pos l0.length with h0 | h0
   ·
    obtain rfl := List.eq_nil_of_length_eq_zero h0
    refine (Try.slices_Clone_string_zero ad c0 w).mono ?_
    rintro e w' ⟨v', rfl, ho, _, hb⟩
    exact ⟨v', rfl, fin v' w' ho, hb⟩
   ·
    have hcell : ∀ j, j < l0.length → w.cell? (ad.add j) = some (.string (l0.getD j ByteArray.empty)) := by
     intro j hj
     obtain ⟨ad', cs, he, hlen, hK, hc⟩ := hr0.get_ ByteArray.empty (j : Int) (by omega) (by omega)
     obtain rfl : ad = ad' := by cases he; rfl
     rw [Int.toNat_natCast] at hK hc
     generalize l0.getD j ByteArray.empty = x at *
     obtain rfl : cs = [.string x] := hK
     have := hc 0 _ rfl
     rwa [show j * Kd.string.sz + 0 = j from Nat.mul_one j] at this
    obtain ⟨b, off, sp⟩ := ad
    have hsp : sp = none := by
     have h1 := hcell 0 h0
     have h2 : (⟨b, off, sp⟩ : Addr).add 0 = ⟨b, off, sp⟩ := rfl
     rw [h2] at h1
     cases sp with
     | none => rfl
     | some f =>
      unfold World.cell? at h1
      dsimp only at h1
      split at h1
      ·
       simp at h1
      ·
       cases h1
    subst hsp
    refine (Try.slices_Clone_string b off l0.length c0 l0 w (Nat.le_refl _) hsz (fun j hj => ?_)).mono ?_
    ·
     have := hcell j hj
     have e : (⟨b, off, none⟩ : Addr).add j = ⟨b, off + j, none⟩ := by
      unfold Addr.add; split
      ·
       rename_i h; subst h; rfl
      ·
       rfl
     rwa [e] at this
    ·
     rintro e w' ⟨v', rfl, ho, _, hb⟩
     rw [List.take_length] at ho
     exact ⟨v', rfl, fin v' w' ho, hb⟩
 ·
  cases h
end Go.Proofs.Ythgacimoifbhiaa.Q
