/- The document's answer: its numbers. -/
import Derived.Test.YtjmcdnhbiamokaaQx2
import Derived.Test.YtjmcdnhbiamokaaPureF
namespace Go.Proofs.Ytjmcdnhbiamokaa.Pure
open Go.RowKit Go.Proofs.Ytjmcdnhbiamokaa.Q Go.Proofs.YtjmcdnhbiamokaaW.PrintWords Go.Proofs.YtjmcdnhbiamokaaW.PrintLast
set_option linter.unusedVariables false
set_option linter.unusedSimpArgs false
theorem refnum_list : ∀ (K n : Nat) (acc : ByteArray), n < 2 ^ (7 * (K + 1)) → n < 18446744073709551616 → acc.size + K ≤ 1000 → ∃ t, samphireref08_Number.l0 (K + 1) (n : Int) acc = some t ∧ t.data.toList = acc.data.toList ++ vi n := by
  intro K
  induction K with
  | zero =>
    intro n acc hn h64 ha
    have hn2 : n < 128 := by simpa using hn
    have hz : (strOfNums [(n : Int) % 256]).size = 1 := strOfNums_size _
    unfold samphireref08_Number.l0
    rw [if_neg (by omega), Option.bind_some, if_pos (by rw [hz]; omega)]
    refine ⟨_, rfl, ?_⟩
    rw [app_list, strOfNums_data, vi_small hn2]
    simp only [List.map_cons, List.map_nil]
    rw [show ((n : Int) % 256).toNat = n by omega]
  | succ K ih =>
    intro n acc hn h64 ha
    unfold samphireref08_Number.l0
    by_cases hs : n < 128
    · have hz : (strOfNums [(n : Int) % 256]).size = 1 := strOfNums_size _
      rw [if_neg (by omega), Option.bind_some, if_pos (by rw [hz]; omega)]
      refine ⟨_, rfl, ?_⟩
      rw [app_list, strOfNums_data, vi_small hs]
      simp only [List.map_cons, List.map_nil]
      rw [show ((n : Int) % 256).toNat = n by omega]
    · have hd : n / 128 < 2 ^ (7 * (K + 1)) := by
        rw [Nat.div_lt_iff_lt_mul (by decide)]
        rw [show 7 * (K + 1 + 1) = 7 * (K + 1) + 7 by omega, Nat.pow_add] at hn
        exact hn
      have e1 : IntKind.u64.wrap (128 + Int.tmod (n : Int) 128) % 256 = ((n % 128 + 128 : Nat) : Int) := by
        rw [Int.tmod_eq_emod_of_nonneg (by omega), IntKind.wrap_u64]; omega
      have e2 : IntKind.u64.wrap (Int.tdiv (n : Int) 128) = ((n / 128 : Nat) : Int) := by
        rw [Int.tdiv_eq_ediv_of_nonneg (by omega), IntKind.wrap_u64]; omega
      have hz : (strOfNums [((n % 128 + 128 : Nat) : Int)]).size = 1 := strOfNums_size _
      obtain ⟨t, h1, h2⟩ := ih (n / 128) (acc ++ strOfNums [((n % 128 + 128 : Nat) : Int)]) hd (by omega) (by rw [ByteArray.size_append, hz]; omega)
      rw [if_pos (by omega), e1, e2, Option.bind_some, if_pos (by rw [hz]; omega)]
      refine ⟨t, h1, ?_⟩
      rw [h2, vi_big hs, app_list, strOfNums_data, List.append_assoc, List.map_cons, List.map_nil, Int.toNat_natCast]
      rfl
theorem refnum_f (K n : Nat) (hn : n < 18446744073709551616) : ∃ t, samphireref08_Number.f (K + 10) (n : Int) = some t ∧ t.data.toList = vi n := by
  obtain ⟨t, h1, h2⟩ := refnum_list 9 n ⟨#[]⟩ (Nat.lt_of_lt_of_le hn (by decide)) hn (by decide)
  exact ⟨t, mono_le (f := fun k => samphireref08_Number.f k (n : Int)) (fun k => samphireref08_Number.mono _ k) h1 (by omega), by simpa using h2⟩
end Go.Proofs.Ytjmcdnhbiamokaa.Pure
