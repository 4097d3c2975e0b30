import Derived.Test.YthgacimoifbhiaaPureTellsA
namespace Go.Proofs.Ythgacimoifbhiaa.Pure
open Go.RowKit Go.Proofs.Ythgacimoifbhiaa.Q Go.Proofs.Ythgacimoifbhiaa.DrawP Go.Proofs.YthgacimoifbhiaaW.PrintWords Go.Proofs.YthgacimoifbhiaaW.PrintLast
set_option linter.unusedVariables false
set_option linter.unusedSimpArgs false
theorem below_alike {l : List Int} {xs : List Nat} (h : Words l xs) (hl : xs.length ≤ 60) (F kf : Nat) (hF : F ≤ kf) (hk : 20000 ≤ kf) (a d v p e : Int) (h0 : 0 ≤ d) (h1 : d < 18446744073709551616) (hb : draw_Below.f F l a d = some (v, l, p, e)) :
  T.samphireref16_below.f kf l a d = some (v, l, p, e) := by
 obtain ⟨n, rfl⟩ : ∃ n : Nat, d = n := ⟨d.toNat, by omega⟩
 have hb2 := more_rounds (fun k => draw_Below.mono l a (n : Int) k) F (kf - F) (v, l, p, e) hb
 rw [show F + (kf - F) = kf by omega] at hb2
 obtain ⟨v', p', e', q1, q2, q3⟩ := partA kf n (by omega) l xs h hl a hk
 rw [q1] at hb2
 simp only [Option.some.injEq, Prod.mk.injEq] at hb2
 obtain ⟨rfl, _, rfl, rfl⟩ := hb2
 unfold T.samphireref16_below.f
 exact bnd (refOf n (by omega) kf (by omega)) (bnd q2 (bnd (rnumber v' q3 kf (by omega)) rfl))
theorem rd_nat (l : List ByteArray) (i : Nat) (h : i < l.length) : rdOf ByteArray.empty l (i : Int) = l[i] := by
 unfold rdOf
 rw [Int.toNat_natCast, List.getD_eq_getElem?_getD, List.getElem?_eq_getElem h]; rfl
theorem right_loop (X : List ByteArray) (hX : X.length ≤ 1024) (K N : Int) (m : Nat) : ∀ (i k : Nat), i + m = X.length → m < k → T.samphireref16_Right.l0 k (i : Int) K N X = some (!((X.drop i).any fun x => decide (64 < x.size))) := by
 induction m with
 | zero =>
  intro i k hi hk
  obtain ⟨k, rfl⟩ : ∃ j, k = j + 1 := ⟨k - 1, by omega⟩
  rw [T.samphireref16_Right.l0, if_neg (by omega), List.drop_eq_nil_of_le (by omega)]
  rfl
 | succ m ih =>
  intro i k hi hk
  obtain ⟨k, rfl⟩ : ∃ j, k = j + 1 := ⟨k - 1, by omega⟩
  have hlt : i < X.length := by omega
  rw [T.samphireref16_Right.l0, if_pos (by omega), if_pos (by omega), rd_nat X i hlt, List.drop_eq_getElem_cons hlt, List.any_cons]
  by_cases hs : 64 < X[i].size
  ·
   rw [if_pos (by omega), decide_eq_true hs]; rfl
  ·
   rw [if_neg (by omega), decide_eq_false hs, Bool.false_or]
   have := ih (i + 1) k (by omega) (by omega)
   rw [show wrap64 ((i : Int) + 1) = ((i + 1 : Nat) : Int) by unfold wrap64; omega]
   exact this
theorem right_alike (K N : Int) (X : List ByteArray) (hX : X.length ≤ 1024) (h0 : 0 ≤ N) (h1 : N < 18446744073709551616) (hK : -9223372036854775808 ≤ K ∧ K ≤ 9223372036854775807) (k : Nat) (hk : 1100 < k) : T.samphireref16_Right.f k K N X = some (rightB K N X) := by
 obtain ⟨k, rfl⟩ : ∃ j, k = j + 2 := ⟨k - 2, by omega⟩
 have hl := right_loop X hX K N X.length 0 k (by omega) (by omega)
 rw [List.drop_zero, Int.natCast_zero] at hl
 have hj1 : ∀ b, T.samphireref16_Right.j1 (k + 1) b K N X = some (!b && !long X) := by
  intro b
  rw [T.samphireref16_Right.j1]
  cases b
  ·
   rw [if_neg (by decide), hl]; rfl
  ·
   rw [if_pos rfl]; rfl
 have hj0 : ∀ b, T.samphireref16_Right.j0 (k + 2) b K N X = if b = true then some false else if N < IntKind.u64.wrap K then (if (X.length : Int) = wrap64 N then some (!long X) else some false) else some (!((X.length : Int) != K) && !long X) := by
  intro b
  rw [T.samphireref16_Right.j0]
  cases b
  ·
   rw [if_neg (show ¬ (false = true) by decide), if_neg (show ¬ (false = true) by decide)]
   by_cases hN : N < IntKind.u64.wrap K
   ·
    rw [if_pos hN, if_pos hN]
    by_cases hx : (X.length : Int) = wrap64 N
    ·
     rw [if_pos hx, if_pos hx, if_neg (by omega), hj1]; rfl
    ·
     rw [if_neg hx, if_neg hx, hj1]; rfl
   ·
    rw [if_neg hN, if_neg hN, if_pos (by omega), hj1]
  ·
   rw [if_pos rfl, if_pos rfl]
 unfold T.samphireref16_Right.f rightB
 by_cases h2 : K < 1
 ·
  rw [if_pos h2, hj0, if_pos rfl, decide_eq_false (by omega)]; rfl
 ·
  by_cases h3 : K > 1024
  ·
   rw [if_neg h2, if_pos h3, hj0, if_pos rfl, decide_eq_false (by omega)]; rfl
  ·
   rw [if_neg h2, if_neg h3, hj0]
   have hwK : IntKind.u64.wrap K = K := by rw [wrapE]; omega
   rw [hwK]
   by_cases h4 : N > 4611686018427387904
   ·
    rw [decide_eq_true h4, if_pos rfl, decide_eq_false (by omega)]; rfl
   ·
    rw [decide_eq_false h4, if_neg (by decide)]
    have hwN : wrap64 N = N := by unfold wrap64; omega
    rw [hwN]
    unfold mn
    by_cases h5 : N < K
    ·
     rw [if_pos h5, if_neg (show ¬ K < N by omega)]
     by_cases hx : (X.length : Int) = N
     ·
      rw [if_pos hx, decide_eq_true (by omega)]; rfl
     ·
      rw [if_neg hx, decide_eq_false (by omega)]; rfl
    ·
     rw [if_neg h5]
     by_cases h6 : K < N
     ·
      rw [if_pos h6]
      by_cases hx : (X.length : Int) = K
      ·
       rw [hx, decide_eq_true (by omega)]; simp
      ·
       rw [decide_eq_false (by omega)]; simp [hx]
     ·
      rw [if_neg h6]
      obtain rfl : N = K := by omega
      by_cases hx : (X.length : Int) = N
      ·
       rw [hx, decide_eq_true (by omega)]; simp
      ·
       rw [decide_eq_false (by omega)]; simp [hx]
theorem left_loop (L : List ByteArray) (hL : L.length ≤ 1024) (i : Nat) (hi : i < L.length) (m : Nat) : ∀ (j k : Nat), j + m = L.length - 1 → m < k →
  T.samphireref16_without.l0 k L (i : Int) ((Q.leftOf L (i : Int)).take j) (j : Int) = some (Q.leftOf L (i : Int)) := by
 have hlen : (Q.leftOf L (i : Int)).length = L.length - 1 := by unfold Q.leftOf; rw [List.length_take, List.length_set]; omega
 have hw : wrap64 ((L.length : Int) - 1) = ((L.length - 1 : Nat) : Int) := by unfold wrap64; omega
 induction m with
 | zero =>
  intro j k hj hk
  obtain ⟨k, rfl⟩ : ∃ q, k = q + 1 := ⟨k - 1, by omega⟩
  rw [T.samphireref16_without.l0, hw, if_neg (by omega), List.take_of_length_le (by omega)]
 | succ m ih =>
  intro j k hj hk
  obtain ⟨k, rfl⟩ : ∃ q, k = q + 1 := ⟨k - 1, by omega⟩
  have hjl : j < (Q.leftOf L (i : Int)).length := by omega
  have hnext := ih (j + 1) k (by omega) (by omega)
  rw [List.take_succ_eq_append_getElem hjl] at hnext
  rw [T.samphireref16_without.l0, hw, if_pos (by omega), show wrap64 ((j : Int) + 1) = ((j + 1 : Nat) : Int) by unfold wrap64; omega]
  have hlt : ((Q.leftOf L (i : Int)).take j).length < 8796093022208 := by rw [List.length_take]; omega
  have hv2 : (Q.leftOf L (i : Int))[j]? = some (if j = i then rdOf ByteArray.empty L ((L.length - 1 : Nat) : Int) else L[j]'(by omega)) := by
   unfold Q.leftOf
   rw [List.getElem?_take_of_lt (by omega), List.getElem?_set, Int.toNat_natCast, show ((L.length : Int) - 1) = ((L.length - 1 : Nat) : Int) by omega]
   by_cases hji : i = j
   ·
    rw [if_pos hji, if_pos (by omega), if_pos hji.symm]
   ·
    rw [if_neg hji, if_neg (fun e => hji e.symm), List.getElem?_eq_getElem (by omega)]
  have hv := Option.some.inj ((List.getElem?_eq_getElem hjl).symm.trans hv2)
  by_cases hji : j = i
  ·
   rw [if_pos (by omega), if_pos (by omega), if_pos (by omega), if_pos hlt]
   rw [hv, if_pos hji] at hnext
   exact hnext
  ·
   rw [if_neg (by omega), if_pos (by omega), if_pos (by omega), if_pos hlt, rd_nat L j (by omega)]
   rw [hv, if_neg hji] at hnext
   exact hnext
theorem without_alike (L : List ByteArray) (i : Int) (hL : L.length ≤ 1024) (h0 : 0 ≤ i) (h1 : i < L.length) (k : Nat) (hk : 1100 < k) : T.samphireref16_without.f k L i = some (Q.leftOf L i) := by
 obtain ⟨n, rfl⟩ : ∃ n : Nat, i = n := ⟨i.toNat, by omega⟩
 unfold T.samphireref16_without.f
 exact left_loop L hL n (by omega) (L.length - 1) 0 k (by omega) (by omega)
end Go.Proofs.Ythgacimoifbhiaa.Pure
