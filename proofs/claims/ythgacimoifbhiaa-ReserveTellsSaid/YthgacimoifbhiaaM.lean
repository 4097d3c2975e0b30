import Derived.Test.YthgacimoifbhiaaRight
import Derived.RowKit3
import Derived.Laws.AppendOwn
import Derived.Laws.AppendOwnNone
namespace Go.Proofs.Ythgacimoifbhiaa
open Go.RowKit Go.Proofs.YthgacimoifbhiaaW.PrintWords Go.Proofs.YthgacimoifbhiaaW.PrintLast
set_option linter.unusedVariables false
set_option linter.unusedSimpArgs false
def long (l : List ByteArray) : Bool := l.any fun x => decide (64 < x.size)
def mn (K N : Int) : Int := if K < N then K else N
theorem ba {a b : World} (h : Below a.heap.size a b) (o : Obj) : Below a.heap.size a (b.alloc o) := h.alloc h.size _
theorem right_head (K N : Int) (A : Option Addr) (c : Nat) (l : List ByteArray) (w : World) (h3 : 0 ≤ N) (h4 : N < 18446744073709551616) (hl : l.length < 9223372036854775807)
  (h : K < 1 ∨ (1 ≤ K ∧ 1024 < K) ∨ (1 ≤ K ∧ K ≤ 1024 ∧ 4611686018427387904 < N) ∨ (1 ≤ K ∧ K ≤ 1024 ∧ N ≤ 4611686018427387904 ∧ ((K < N ∧ ¬ (l.length : Int) = K) ∨ (¬ K < N ∧ ¬ (l.length : Int) = N)))) :
  Calls Try.prog 17 #[.agg #[.int .i64 K, .int .u64 N, .slice A l.length c]] w fun e w' => e = .returned (.bool false) ∧ Below w.heap.size w w' := by
 rcases h with h | ⟨h, h'⟩ | ⟨h, h', h''⟩ | ⟨h, h', h'', ⟨k, k'⟩ | ⟨k, k'⟩⟩
 all_goals
  go_enter Try.func17, Try.ntmps17
  go_wp2
  go_ret
  exact ⟨rfl, ba (Below.refl _ _) _⟩
theorem right_tail (K N : Int) (A : Option Addr) (c : Nat) (l : List ByteArray) (w : World) (h3 : 0 ≤ N) (h1 : 1 ≤ K) (h2 : K ≤ 1024) (h4 : N ≤ 4611686018427387904) (hr : Kd.C Kd.string w A l.length l) (hl : l.length < 9223372036854775807)
  (h : (K < N ∧ (l.length : Int) = K) ∨ (¬ K < N ∧ (l.length : Int) = N)) (b : Bool) (hb : b = !(long l)) :
  Calls Try.prog 17 #[.agg #[.int .i64 K, .int .u64 N, .slice A l.length c]] w fun e w' => e = .returned (.bool b) ∧ Below w.heap.size w w' := by
 have F := Lib.hid (fun w hr => contains_any A c l w hr hl (long l) rfl)
 subst hb
 generalize long l = x at *
 have HR := Lib.hid hr
 clear hr
 rcases h with ⟨k, k'⟩ | ⟨k, k'⟩
 all_goals
  go_enter Try.func17, Try.ntmps17
  go_wp2_with (go_at_call 25; refine (F.out _ (Kd.C_below HR.out (ba (Below.refl _ _) _))).mono ?_; rintro e w' ⟨rfl, rfl⟩)
  go_ret
  exact ⟨rfl, ba (Below.refl _ _) _⟩
namespace Q
def rightB (K N : Int) (l : List ByteArray) : Bool := decide (1 ≤ K ∧ K ≤ 1024 ∧ N ≤ 4611686018427387904 ∧ (l.length : Int) = mn K N) && !(long l)
def reserve_Right.f (a0_0 a0_1 : Int) (l0_2 : List ByteArray) : Option Bool := if 0 ≤ a0_1 ∧ a0_1 < 18446744073709551616 ∧ l0_2.length < 9223372036854775807 then some (rightB a0_0 a0_1 l0_2) else none
theorem reserve_Right.calls (a0_0 : Int) (a0_1 : Int) (A0_2 : Option Addr) (c0_2 : Nat) (l0_2 : List ByteArray) (r : Bool) (w : World) (hr0_2 : Kd.C Kd.string w A0_2 l0_2.length l0_2) (hc0_2 : l0_2.length ≤ c0_2) (h : reserve_Right.f a0_0 a0_1 l0_2 = some r) :
  Calls Try.prog 17 #[.agg #[.int .i64 a0_0, .int .u64 a0_1, .slice A0_2 l0_2.length c0_2]] w fun e w' => e = .returned (.bool r) ∧ Below w.heap.size w w' := by
 unfold reserve_Right.f at h
 split at h
 ·
  rename_i hc
  obtain ⟨h0, h1, h2⟩ := hc
  obtain rfl := Option.some.inj h
  unfold rightB
  by_cases hh : 1 ≤ a0_0 ∧ a0_0 ≤ 1024 ∧ a0_1 ≤ 4611686018427387904 ∧ (l0_2.length : Int) = mn a0_0 a0_1
  ·
   rw [decide_eq_true hh, Bool.true_and]
   obtain ⟨k1, k2, k3, k4⟩ := hh
   refine right_tail a0_0 a0_1 A0_2 c0_2 l0_2 w h0 k1 k2 k3 hr0_2 h2 ?_ _ rfl
   unfold mn at k4
   split at k4
   ·
    exact Or.inl ⟨by assumption, k4⟩
   ·
    exact Or.inr ⟨by assumption, k4⟩
  ·
   rw [decide_eq_false hh, Bool.false_and]
   refine right_head a0_0 a0_1 A0_2 c0_2 l0_2 w h0 h1 h2 ?_
   unfold mn at hh
   split at hh <;> omega
 ·
  cases h
end Q
end Go.Proofs.Ythgacimoifbhiaa
