import Derived.Test.YthgacimoifbhiaaProg
import Derived.Test.YthgacimoifbhiaaWWords
import Derived.Test.YthgacimoifbhiaaWLast
import Derived.Below
import Derived.WalkKit
import Derived.LoopTactic
import Derived.Outline
import Derived.Lib.Hide
import Derived.WalkLawsBesides
namespace Go.Proofs.Ythgacimoifbhiaa
open Go.RowKit Go.Proofs.YthgacimoifbhiaaW.PrintWords
set_option linter.unusedVariables false
set_option linter.unusedSimpArgs false
theorem long_any (s : ByteArray) (w : World) (b : Bool) (hb : decide ((64 : Int) < s.size) = b) : Calls Try.prog 26 #[.string s] w fun e w' => e = .returned (.bool b) ∧ w = w' := by
 go_enter Try.func26, Try.ntmps26
 go_wp2
 go_ret
 exact ⟨by simp [hb], rfl⟩
abbrev tooLong : Value := .func (.func 26) #[] #[]
set_option maxHeartbeats 1000000 in
theorem index_no (A : Option Addr) (c : Nat) (l : List ByteArray) (w : World) (hr : Kd.C Kd.string w A l.length l) (hl : l.length < 9223372036854775807) (hall : ∀ x ∈ l, x.size ≤ 64) :
  Calls Try.prog 34 #[.slice A l.length c, tooLong] w fun e w' => e = .returned (.int .i64 (-1)) ∧ w = w' := by
 have HR := Lib.hid hr
 have HA := Lib.hid hall
 clear hr hall
 go_enter Try.func34, Try.ntmps34
 go_wp2
 go_loop [8] (fun i => ∃ k : Nat, k ≤ l.length ∧ i = .int .i64 k) (fun i => l.length - (intOf i).toNat)
 case atStart => exact ⟨0, Nat.zero_le _, rfl⟩
 case round =>
  obtain ⟨k, hk, rfl⟩ := hrel
  by_cases hlt : k < l.length
  ·
   obtain ⟨ad, cs, rfl, hlen, hK, hcell⟩ := HR.out.get_ ByteArray.empty (k : Int) (by omega) (by omega)
   rw [Int.toNat_natCast] at hK hcell
   have hx := HA.out (l.getD k ByteArray.empty) (by rw [List.getD_eq_getElem?_getD, List.getElem?_eq_getElem hlt]; exact List.getElem_mem _)
   generalize l.getD k ByteArray.empty = x at *
   obtain rfl : cs = [.string x] := hK
   have hc0 := hcell 0 _ rfl
   rw [show k * Kd.string.sz + 0 = k from Nat.mul_one k] at hc0
   clear hcell hlen
   go_wp2_with (go_at_call 26; refine (long_any x _ false (decide_eq_false (by omega))).mono ?_; rintro e w' ⟨rfl, rfl⟩)
   go_round
   case rel => exact ⟨k + 1, by omega, by go_num⟩
   case measure => simp [intOf]; omega
  ·
   go_wp2
   go_ret
   exact ⟨rfl, rfl⟩
set_option maxHeartbeats 1000000 in
theorem index_yes (A : Option Addr) (c : Nat) (l : List ByteArray) (w : World) (hr : Kd.C Kd.string w A l.length l) (hl : l.length < 9223372036854775807) (n : Nat) (hn : n < l.length) (hbig : 64 < (l.getD n ByteArray.empty).size) (hall : ∀ k, k < n → (l.getD k ByteArray.empty).size ≤ 64) :
  Calls Try.prog 34 #[.slice A l.length c, tooLong] w fun e w' => e = .returned (.int .i64 (n : Int)) ∧ w = w' := by
 have HR := Lib.hid hr
 have HA := Lib.hid hall
 clear hr hall
 go_enter Try.func34, Try.ntmps34
 go_wp2
 go_loop [8] (fun i => ∃ k : Nat, k ≤ n ∧ i = .int .i64 k) (fun i => l.length - (intOf i).toNat)
 case atStart => exact ⟨0, Nat.zero_le _, rfl⟩
 case round =>
  obtain ⟨k, hk, rfl⟩ := hrel
  obtain ⟨ad, cs, rfl, hlen, hK, hcell⟩ := HR.out.get_ ByteArray.empty (k : Int) (by omega) (by omega)
  rw [Int.toNat_natCast] at hK hcell
  by_cases hlt : k < n
  ·
   have hx := HA.out k hlt
   generalize l.getD k ByteArray.empty = x at *
   obtain rfl : cs = [.string x] := hK
   have hc0 := hcell 0 _ rfl
   rw [show k * Kd.string.sz + 0 = k from Nat.mul_one k] at hc0
   clear hcell hlen
   have hkl : k < l.length := by omega
   go_wp2_with (go_at_call 26; refine (long_any x _ false (decide_eq_false (by omega))).mono ?_; rintro e w' ⟨rfl, rfl⟩)
   go_round
   case rel => exact ⟨k + 1, by omega, by go_num⟩
   case measure => simp [intOf]; omega
  ·
   obtain rfl : k = n := by omega
   generalize l.getD k ByteArray.empty = x at *
   obtain rfl : cs = [.string x] := hK
   have hc0 := hcell 0 _ rfl
   rw [show k * Kd.string.sz + 0 = k from Nat.mul_one k] at hc0
   clear hcell hlen
   go_wp2_with (go_at_call 26; refine (long_any x _ true (decide_eq_true (by omega))).mono ?_; rintro e w' ⟨rfl, rfl⟩)
   go_ret
   exact ⟨rfl, rfl⟩
theorem contains_any (A : Option Addr) (c : Nat) (l : List ByteArray) (w : World) (hr : Kd.C Kd.string w A l.length l) (hl : l.length < 9223372036854775807) (b : Bool) (hb : b = l.any fun x => decide (64 < x.size)) :
  Calls Try.prog 25 #[.slice A l.length c, tooLong] w fun e w' => e = .returned (.bool b) ∧ w = w' := by
 by_cases h : ∀ x ∈ l, x.size ≤ 64
 ·
  obtain rfl : b = false := by
   rw [hb, List.any_eq_false]; intro x hx; have := h x hx; simp; omega
  have F := Lib.hid (fun w hr => index_no A c l w hr hl h)
  clear hb h
  go_enter Try.func25, Try.ntmps25
  go_wp2_with (go_at_call 34; refine (F.out _ hr).mono ?_; rintro e w' ⟨rfl, rfl⟩)
  go_ret
  exact ⟨rfl, rfl⟩
 ·
  have hex : ∃ n, n < l.length ∧ 64 < (l.getD n ByteArray.empty).size := by
   apply Classical.byContradiction
   intro hne
   apply h
   intro x hx
   obtain ⟨i, hi, rfl⟩ := List.mem_iff_getElem.1 hx
   apply Classical.byContradiction
   intro hgt
   exact hne ⟨i, hi, by rw [List.getD_eq_getElem?_getD, List.getElem?_eq_getElem hi]; simp only [Option.getD_some]; omega⟩
  obtain ⟨n, hn, hmin⟩ : ∃ n, (n < l.length ∧ 64 < (l.getD n ByteArray.empty).size) ∧ ∀ k, k < n → (l.getD k ByteArray.empty).size ≤ 64 := by
   obtain ⟨n, hn⟩ := hex
   induction n using Nat.strongRecOn with
   | ind n ih =>
    by_cases hk : ∃ k, k < n ∧ 64 < (l.getD k ByteArray.empty).size
    ·
     obtain ⟨k, h1, h2⟩ := hk
     exact ih k h1 ⟨by omega, h2⟩
    ·
     exact ⟨n, hn, fun k h1 => by apply Classical.byContradiction; intro h2; exact hk ⟨k, h1, by omega⟩⟩
  obtain rfl : b = true := by
   rw [hb, List.any_eq_true]
   refine ⟨l.getD n ByteArray.empty, ?_, by simp; exact hn.2⟩
   rw [List.getD_eq_getElem?_getD, List.getElem?_eq_getElem hn.1]; exact List.getElem_mem _
  have F := Lib.hid (fun w hr => index_yes A c l w hr hl n hn.1 hn.2 hmin)
  clear hb h hex hmin hn
  go_enter Try.func25, Try.ntmps25
  go_wp2_with (go_at_call 34; refine (F.out _ hr).mono ?_; rintro e w' ⟨rfl, rfl⟩)
  go_ret
  exact ⟨rfl, rfl⟩
end Go.Proofs.Ythgacimoifbhiaa
