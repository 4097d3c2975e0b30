import Derived.Test.YtobdhjnaglikaaaQx0
import Derived.Test.YtobdhjnaglikaaaShelf
import Derived.Lib.Hide
import Derived.WalkSpells
namespace Go.Proofs.Ytobdhjnaglikaaa.Q
open Go.RowKit Go.Proofs.YtobdhjnaglikaaaW.PrintWords Go.Proofs.YtobdhjnaglikaaaW.PrintLast Go.Proofs.YtobdhjnaglikaaaW.PrintMore
set_option linter.unusedVariables false
def strings_Compare.f (a b : ByteArray) : Option Int := some (Lib.compareBytes a.data.toList b.data.toList)
theorem strings_Compare.calls (a b : ByteArray) (r : Int) (w : World) (h : strings_Compare.f a b = some r) : Calls Try.prog 40 #[.string a, .string b] w fun e w' => e = .returned (.int .i64 r) ∧ Drawn0 w w' := by
 obtain rfl := Option.some.inj h
 refine (Try.strings_Compare a b w).mono ?_
 rintro e w' ⟨rfl, rfl⟩
 exact ⟨rfl, Drawn0.refl _⟩
def bits_Mul64.f (x y : Int) : Option (Int × Int) := if 0 ≤ x ∧ x < 18446744073709551616 ∧ 0 ≤ y ∧ y < 18446744073709551616 then some (((x.toNat * y.toNat / 18446744073709551616 : Nat) : Int), ((x.toNat * y.toNat % 18446744073709551616 : Nat) : Int)) else none
theorem bits_Mul64.calls (x y r1 r2 : Int) (w : World) (h : bits_Mul64.f x y = some (r1, r2)) :
  Calls Try.prog 44 #[.int .u64 x, .int .u64 y] w fun e w' => e = .returned (.tuple #[.int .u64 r1, .int .u64 r2]) ∧ Drawn0 w w' := by
 unfold bits_Mul64.f at h
 split at h
 ·
  rename_i hc
  obtain ⟨h1, h2⟩ := Prod.mk.injEq .. ▸ Option.some.inj h
  obtain ⟨x, rfl⟩ := Int.eq_ofNat_of_zero_le hc.1
  obtain ⟨y, rfl⟩ := Int.eq_ofNat_of_zero_le hc.2.2.1
  subst h1 h2
  refine (Try.bits_Mul64 x y (by omega) (by omega) w).mono ?_
  rintro e w' ⟨rfl, rfl⟩
  exact ⟨rfl, Drawn0.refl _⟩
 ·
  cases h
set_option maxHeartbeats 1000000 in
theorem clone_some (ad : Addr) (c0 : Nat) (l0 : List S25) (w : World) (hr0 : Kd.C k25 w (some ad) l0.length l0) (hsz : l0.length * 32 ≤ 140737488355328) :
  Calls Try.prog 27 #[.slice (some ad) l0.length c0] w fun e w' => ∃ v0_ : Value, e = .returned (v0_) ∧ Kd.R k25 25 w' w.heap.size (fun _ => True) v0_ l0 ∧ Below w.heap.size w w' := by
 have HR := Lib.hid hr0
 clear hr0
 have hn := fun (w : World) (n c : Nat) => Lib.run_eql_slice_nil (P := Try.prog) w 22 25 (some ad) n c 0 0 Try.underlying22
 go_enter Try.func27, Try.ntmps27
 go_wp2_with (first
  | ((with_reducible refine gate_dst (N := 5) rfl ?_); refine Kd.R_lit k25 w.heap.size 25 ?hg (N := 5) ?hd (xs := ([] : List S25)) (inner := []) (ok := fun _ => True) (okp := fun _ => True) ?hr ?hp (fun _ hk => hk) trivial (Below.refl _ _) (Nat.le_refl _) (by simp) ?_; (case hd => rfl); (case hg => rfl); (case hr => first | (go_simp; done) | (go_simp; rfl)); (case hp => exact Reps.none _ _); intro v5 w5 ho5 hb5 hg_ hnew_; clear hg_ hnew_; have HO5 := Aside0.mk ho5; have HB5 := Aside0.mk hb5; clear ho5 hb5)
  | (refine Kd.R_append_rows k25 (w0 := w) w.heap.size (by rfl) (.tmp 5) (.tmp 6) 22 25 (.agg #[(.string ⟨#[]⟩), (.int .u64 0), (.int .u64 0)]) 32 rfl Try.underlying22 info25 rfl (by decide) (by omega) v5 [] l0 (some ad) l0.length c0 (fun _ => True) (fun _ => False) rfl rfl HO5.out (Kd.C_below HR.out HB5.out) (fun _ _ h => h) (fun _ h => h.elim) (fun _ _ => trivial) HB5.out HB5.out.size (by simp; omega) ?_; intro v7 w7 ho7 hb7 hg7 hat7; clear hg7 hat7; have HO7 := Aside0.mk ho7; have HB7 := Aside0.mk hb7; clear ho7 hb7))
 go_ret
 exact ⟨_, rfl, HO7.out, HB7.out⟩
theorem clone_none (n c0 : Nat) (w : World) : Calls Try.prog 27 #[.slice none n c0] w fun e w' => e = .returned (.slice none 0 0) ∧ w = w' := by
 have hn := fun (w : World) (n c : Nat) => Lib.run_eql_slice_nil (P := Try.prog) w 22 25 none n c 0 0 Try.underlying22
 go_enter Try.func27, Try.ntmps27
 go_wp2
 go_ret
 exact ⟨rfl, rfl⟩
def api_Item_27.f (l0 : List S25) : Option (List S25) := if l0.length * 32 ≤ 140737488355328 then some l0 else none
theorem api_Item_27.calls (A0 : Option Addr) (c0 : Nat) (l0 : List S25) (r : List S25) (w : World) (hr0 : Kd.C k25 w A0 l0.length l0) (hc0 : l0.length ≤ c0) (h : api_Item_27.f l0 = some r) :
  Calls Try.prog 27 #[.slice A0 l0.length c0] w fun e w' => ∃ v0_ : Value, e = .returned (v0_) ∧ Kd.R k25 25 w' w.heap.size (fun _ => True) v0_ r ∧ Below w.heap.size w w' := by
 unfold api_Item_27.f at h
 split at h
 ·
  rename_i hsz
  obtain rfl := Option.some.inj h
  cases A0 with
  | none =>
   refine (clone_none l0.length c0 w).mono ?_
   rintro e w' ⟨rfl, rfl⟩
   have hn : l0 = [] := by
    rcases Nat.eq_zero_or_pos l0.length with h0 | h0
    ·
     exact List.eq_nil_of_length_eq_zero h0
    ·
     obtain ⟨ad, hh, _⟩ := hr0.2.2 h0
     cases hh
   subst hn
   exact ⟨_, rfl, Kd.R_nil _ _ _ _ _, Below.refl _ _⟩
  | some ad => exact clone_some ad c0 l0 w hr0 hsz
 ·
  cases h
end Go.Proofs.Ytobdhjnaglikaaa.Q
