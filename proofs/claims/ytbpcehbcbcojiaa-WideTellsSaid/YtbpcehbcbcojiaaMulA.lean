import Derived.Test.YtbpcehbcbcojiaaVc
namespace Go.Proofs.Ytbpcehbcbcojiaa
open Go.RowKit
set_option linter.unusedVariables false
set_option linter.unusedSimpArgs false
theorem order_any (a b : Nat) (w : World) (r : Int) (hr : r = if a < b then -1 else if b < a then 1 else 0) : Calls Try.prog 36 #[.int .u64 (a : Int), .int .u64 (b : Int)] w fun e w' => e = .returned (.int .i64 r) ∧ w = w' := by
 by_cases h1 : a < b
 ·
  rw [if_pos h1] at hr; subst hr
  go_enter Try.func36, Try.ntmps36
  go_wp2
  go_ret
  exact ⟨rfl, rfl⟩
 ·
  rw [if_neg h1] at hr
  by_cases h2 : b < a
  ·
   rw [if_pos h2] at hr; subst hr
   go_enter Try.func36, Try.ntmps36
   go_wp2
   go_ret
   exact ⟨rfl, rfl⟩
  ·
   rw [if_neg h2] at hr; subst hr
   go_enter Try.func36, Try.ntmps36
   go_wp2
   go_ret
   exact ⟨rfl, rfl⟩
theorem cmp_any (ah al bh bl : Nat) (h2 : W64 al) (h4 : W64 bl) (w : World) :
  Calls Try.prog 24 #[U ah al, U bh bl] w fun e w' => e = .returned (.int .i64 (cmpR (V ah al) (V bh bl))) ∧ Below w.heap.size w w' := by
 rcases Nat.lt_trichotomy ah bh with h | h | h
 ·
  have e : cmpR (V ah al) (V bh bl) = -1 := by unfold cmpR V; rw [if_pos (by omega)]
  rw [e]
  go_enter Try.func24, Try.ntmps24
  go_wp2_with (go_at_call 36; refine (order_any ah bh _ (-1) (by rw [if_pos h])).mono ?_; rintro e w' ⟨rfl, rfl⟩)
  go_ret
  exact ⟨rfl, ba (ba (Below.refl _ _) _) _⟩
 ·
  subst h
  rcases Nat.lt_trichotomy al bl with h | h | h
  ·
   have e : cmpR (V ah al) (V ah bl) = -1 := by unfold cmpR V; rw [if_pos (by omega)]
   rw [e]
   go_enter Try.func24, Try.ntmps24
   go_wp2_with (fail)
   refine (order_any ah ah _ 0 (by simp)).mono ?_
   rintro e w' ⟨rfl, rfl⟩
   go_wp2_with (go_at_call 36; refine (order_any al bl _ (-1) (by rw [if_pos h])).mono ?_; rintro e w' ⟨rfl, rfl⟩)
   go_ret
   exact ⟨rfl, ba (ba (Below.refl _ _) _) _⟩
  ·
   subst h
   have e : cmpR (V ah al) (V ah al) = 0 := by unfold cmpR; simp
   rw [e]
   go_enter Try.func24, Try.ntmps24
   go_wp2_with (fail)
   refine (order_any ah ah _ 0 (by simp)).mono ?_
   rintro e w' ⟨rfl, rfl⟩
   go_wp2_with (go_at_call 36; refine (order_any al al _ 0 (by simp)).mono ?_; rintro e w' ⟨rfl, rfl⟩)
   go_ret
   exact ⟨rfl, ba (ba (Below.refl _ _) _) _⟩
  ·
   have e : cmpR (V ah al) (V ah bl) = 1 := by unfold cmpR V; rw [if_neg (by omega), if_pos (by omega)]
   rw [e]
   go_enter Try.func24, Try.ntmps24
   go_wp2_with (fail)
   refine (order_any ah ah _ 0 (by simp)).mono ?_
   rintro e w' ⟨rfl, rfl⟩
   go_wp2_with (go_at_call 36; refine (order_any al bl _ 1 (by rw [if_neg (by omega), if_pos h])).mono ?_; rintro e w' ⟨rfl, rfl⟩)
   go_ret
   exact ⟨rfl, ba (ba (Below.refl _ _) _) _⟩
 ·
  have e : cmpR (V ah al) (V bh bl) = 1 := by unfold cmpR V; rw [if_neg (by omega), if_pos (by omega)]
  rw [e]
  go_enter Try.func24, Try.ntmps24
  go_wp2_with (go_at_call 36; refine (order_any ah bh _ 1 (by rw [if_neg (by omega), if_pos h])).mono ?_; rintro e w' ⟨rfl, rfl⟩)
  go_ret
  exact ⟨rfl, ba (ba (Below.refl _ _) _) _⟩
end Go.Proofs.Ytbpcehbcbcojiaa
