/- Merged with one to which none came a reservoir has the same keys: over lists; and the law's walk. -/
import Derived.Test.YthgacimoifbhiaaNone
import Derived.Test.YthgacimoifbhiaaDraw
namespace Go.Proofs.Ythgacimoifbhiaa.Pure
open Go.RowKit Go.Proofs.Ythgacimoifbhiaa.Q Go.Proofs.YthgacimoifbhiaaW.PrintWords Go.Proofs.YthgacimoifbhiaaW.PrintLast Go.Proofs.Ythgacimoifbhiaa.Draw
set_option linter.unusedVariables false
theorem awake0 : samphirelaw16_awake.f 30 = some true := by decide +kernel
theorem awake (k : Nat) : samphirelaw16_awake.f (30 + k) = some true := more_rounds samphirelaw16_awake.mono 30 k true awake0
theorem awake' {k : Nat} (h : 30 ≤ k) : samphirelaw16_awake.f k = some true := by
  obtain ⟨j, rfl⟩ : ∃ j, k = 30 + j := ⟨k - 30, by omega⟩
  exact awake j
theorem pick_lt (M d : Nat) : ∀ (l : List Nat) (i x j : Nat), pick M d l i = some (x, j) → x < d ∧ j ≤ i + l.length ∧ i ≤ j
  | [], i, x, j, h => by cases h
  | y :: l, i, x, j, h => by
    rw [pick] at h
    by_cases hc : y % M < d
    · rw [if_pos hc] at h
      simp only [Option.some.injEq, Prod.mk.injEq] at h
      obtain ⟨rfl, rfl⟩ := h
      exact ⟨hc, by simp, by omega⟩
    · rw [if_neg hc] at h
      obtain ⟨h1, h2, h3⟩ := pick_lt M d l (i + 1) x j h
      exact ⟨h1, by simp only [List.length_cons]; omega, by omega⟩
theorem bit_le : ∀ d : Fin 1025, Lib.bitLen (d.val - 1) ≤ 64 := by decide +kernel
theorem drawn_eq {l : List Int} {xs : List Nat} (h : Words l xs) (hl : l.length ≤ 200) (d a : Nat) (hd0 : 0 < d) (hd : d ≤ 1024) (ha : a ≤ l.length) :
    drawn (l.length + 5) l (a : Int) (d : Int) = some none ∨ ∃ i b : Nat, drawn (l.length + 5) l (a : Int) (d : Int) = some (some ((i : Int), (b : Int))) ∧ i < d ∧ b ≤ l.length := by
  have hlen := h.length
  have hb := below d _ hd0 (by omega) rfl (bit_le ⟨d, by omega⟩) h a (by omega) (by omega) (l.length + 5) (by omega)
  unfold drawn
  by_cases hm : Lib.bitLen (d - 1) = 0
  · rw [if_pos hm] at hb
    exact .inr ⟨0, a, bnd hb (ift rfl (ift rfl rfl)), hd0, ha⟩
  · rw [if_neg hm] at hb
    rcases hp : pick (2 ^ Lib.bitLen (d - 1)) d (xs.drop a) 0 with _ | ⟨x, j⟩
    · rw [hp] at hb
      exact .inl (bnd hb (ift rfl (iff_ (show ¬ (8 : Int) = 0 by decide) (ift rfl rfl))))
    · rw [hp] at hb
      obtain ⟨h1, h2, _⟩ := pick_lt _ _ _ _ _ _ hp
      rw [List.length_drop] at h2
      exact .inr ⟨x, a + j, bnd hb (ift rfl (ift rfl rfl)), h1, by omega⟩
theorem split_at (l : List ByteArray) (i : Nat) (hi : i < l.length) : l = l.take i ++ l.getD i ByteArray.empty :: l.drop (i + 1) := by
  have e : l.getD i ByteArray.empty = l[i] := by rw [List.getD_eq_getElem?_getD, List.getElem?_eq_getElem hi]; rfl
  rw [e, List.getElem_cons_drop, List.take_append_drop]
theorem set_perm (l : List ByteArray) (i : Nat) (x : ByteArray) (hi : i < l.length) : (l.getD i ByteArray.empty :: l.set i x).Perm (x :: l) := by
  have e : l.set i x = l.take i ++ x :: l.drop (i + 1) := List.set_eq_take_append_cons_drop.trans (by rw [if_pos hi])
  rw [e]
  have h1 : (l.take i ++ x :: l.drop (i + 1)).Perm (x :: (l.take i ++ l.drop (i + 1))) := List.perm_middle
  have h2 : (x :: l).Perm (x :: (l.getD i ByteArray.empty :: (l.take i ++ l.drop (i + 1)))) := List.Perm.cons _ (by
    have := @List.perm_middle _ (l.getD i ByteArray.empty) (l.take i) (l.drop (i + 1))
    rw [← split_at l i hi] at this
    exact this)
  exact ((List.Perm.cons _ h1).trans (List.Perm.swap _ _ _)).trans h2.symm
theorem left_perm (X : List ByteArray) (i : Nat) (hi : i < X.length) : (rdOf ByteArray.empty X (i : Int) :: Q.leftOf X (i : Int)).Perm X := by
  have e0 : rdOf ByteArray.empty X (i : Int) = X.getD i ByteArray.empty := by unfold rdOf; rw [Int.toNat_natCast]
  have e1 : rdOf ByteArray.empty X ((X.length : Int) - 1) = X.getD (X.length - 1) ByteArray.empty := by unfold rdOf; rw [show ((X.length : Int) - 1).toNat = X.length - 1 by omega]
  unfold Q.leftOf
  rw [e0, e1, Int.toNat_natCast]
  have h1 := set_perm X i (X.getD (X.length - 1) ByteArray.empty) hi
  have hn : (X.set i (X.getD (X.length - 1) ByteArray.empty)).length = X.length := List.length_set
  have h2 := split_at (X.set i (X.getD (X.length - 1) ByteArray.empty)) (X.length - 1) (by rw [hn]; omega)
  have h3 : (X.set i (X.getD (X.length - 1) ByteArray.empty)).getD (X.length - 1) ByteArray.empty = X.getD (X.length - 1) ByteArray.empty := by
    rw [List.getD_eq_getElem?_getD, List.getElem?_set]
    by_cases e : i = X.length - 1
    · rw [if_pos e, if_pos hi]; rfl
    · rw [if_neg e, List.getD_eq_getElem?_getD]
  rw [h3, List.drop_of_length_le (by rw [hn]; omega)] at h2
  generalize (X.set i (X.getD (X.length - 1) ByteArray.empty)) = S at *
  generalize X.getD (X.length - 1) ByteArray.empty = z at *
  generalize X.getD i ByteArray.empty = y at *
  have h4 : (z :: S.take (X.length - 1)).Perm S := by
    have := (@List.perm_append_singleton _ z (S.take (X.length - 1))).symm
    rw [← h2] at this
    exact this
  exact List.Perm.cons_inv (((List.Perm.swap _ _ _).trans (List.Perm.cons y h4)).trans h1)
theorem wrapE (x : Int) : IntKind.u64.wrap x = x % 18446744073709551616 := by simp [IntKind.wrap, IntKind.signed, IntKind.bits]
theorem rounds_a {l : List Int} {xs : List Nat} (h : Words l xs) (hl : l.length ≤ 200) (m : Nat) : ∀ (n a : Nat) (X items : List ByteArray), X.length = m → m ≤ n → n ≤ 1000 → a ≤ l.length →
    rounds (l.length + 5) l m (n : Int) X 0 [] (a : Int) items = some none ∨ ∃ (r : List ByteArray) (b : Nat), rounds (l.length + 5) l m (n : Int) X 0 [] (a : Int) items = some (some (items ++ r, (b : Int))) ∧ r.Perm X := by
  induction m with
  | zero =>
    intro n a X items hX hn hn2 ha
    obtain rfl : X = [] := List.eq_nil_of_length_eq_zero hX
    exact .inr ⟨[], a, by rw [List.append_nil]; rfl, List.Perm.refl _⟩
  | succ m ih =>
    intro n a X items hX hn hn2 ha
    have e1 : IntKind.u64.wrap ((n : Int) + 0) = ((n : Nat) : Int) := by rw [wrapE]; omega
    have e2 : IntKind.u64.wrap ((n : Int) - 1) = ((n - 1 : Nat) : Int) := by rw [wrapE]; omega
    rcases drawn_eq h hl n a (by omega) (by omega) ha with d1 | ⟨j, b1, d1, hj, hb1⟩
    · refine .inl (rounds_no (t := (true, 0, (a : Int), false)) ?_ rfl)
      unfold picked
      rw [e1]
      exact bnd d1 rfl
    · rcases drawn_eq h hl X.length b1 (by omega) (by omega) hb1 with d2 | ⟨i, b, d2, hi, hb⟩
      · refine .inl (rounds_no (t := (true, 0, (b1 : Int), false)) ?_ rfl)
        unfold picked
        rw [e1]
        exact bnd d1 (ift (by omega) (bnd d2 rfl))
      · have hp : picked (l.length + 5) (n : Int) X 0 [] l (a : Int) = some (true, (i : Int), (b : Int), true) := by
          unfold picked
          rw [e1]
          exact bnd d1 (ift (by omega) (bnd d2 (ift ⟨by omega, by omega⟩ rfl)))
        have hr := rounds_yes (F := l.length + 5) (m := m) (items := items) hp rfl
        have ha2 : after (n : Int) X 0 [] (true, (i : Int), (b : Int), true) = (((n - 1 : Nat) : Int), Q.leftOf X (i : Int), 0, [], rdOf ByteArray.empty X (i : Int)) := by
          unfold after; rw [if_pos rfl, e2]
        rw [ha2] at hr
        have hq := left_perm X i hi
        rw [hr]
        rcases ih (n - 1) b (Q.leftOf X (i : Int)) (items ++ [rdOf ByteArray.empty X (i : Int)]) (by rw [leftOf_length]; omega) (by omega) (by omega) hb with g | ⟨r, b2, g, gp⟩
        · exact .inl g
        · exact .inr ⟨rdOf ByteArray.empty X (i : Int) :: r, b2, by rw [g]; simp, (List.Perm.cons _ gp).trans hq⟩
theorem rounds_b {l : List Int} {xs : List Nat} (h : Words l xs) (hl : l.length ≤ 200) (m : Nat) : ∀ (n a : Nat) (X items : List ByteArray), X.length = m → m ≤ n → n ≤ 1000 → a ≤ l.length →
    rounds (l.length + 5) l m 0 [] (n : Int) X (a : Int) items = some none ∨ ∃ (r : List ByteArray) (b : Nat), rounds (l.length + 5) l m 0 [] (n : Int) X (a : Int) items = some (some (items ++ r, (b : Int))) ∧ r.Perm X := by
  induction m with
  | zero =>
    intro n a X items hX hn hn2 ha
    obtain rfl : X = [] := List.eq_nil_of_length_eq_zero hX
    exact .inr ⟨[], a, by rw [List.append_nil]; rfl, List.Perm.refl _⟩
  | succ m ih =>
    intro n a X items hX hn hn2 ha
    have e1 : IntKind.u64.wrap (0 + (n : Int)) = ((n : Nat) : Int) := by rw [wrapE]; omega
    have e2 : IntKind.u64.wrap ((n : Int) - 1) = ((n - 1 : Nat) : Int) := by rw [wrapE]; omega
    rcases drawn_eq h hl n a (by omega) (by omega) ha with d1 | ⟨j, b1, d1, hj, hb1⟩
    · refine .inl (rounds_no (t := (true, 0, (a : Int), false)) ?_ rfl)
      unfold picked
      rw [e1]
      exact bnd d1 rfl
    · rcases drawn_eq h hl X.length b1 (by omega) (by omega) hb1 with d2 | ⟨i, b, d2, hi, hb⟩
      · refine .inl (rounds_no (t := (false, 0, (b1 : Int), false)) ?_ rfl)
        unfold picked
        rw [e1]
        exact bnd d1 (iff_ (by omega) (bnd d2 rfl))
      · have hp : picked (l.length + 5) 0 [] (n : Int) X l (a : Int) = some (false, (i : Int), (b : Int), true) := by
          unfold picked
          rw [e1]
          exact bnd d1 (iff_ (by omega) (bnd d2 (ift ⟨by omega, by omega⟩ rfl)))
        have hr := rounds_yes (F := l.length + 5) (m := m) (items := items) hp rfl
        have ha2 : after 0 [] (n : Int) X (false, (i : Int), (b : Int), true) = (0, [], ((n - 1 : Nat) : Int), Q.leftOf X (i : Int), rdOf ByteArray.empty X (i : Int)) := by
          unfold after; rw [if_neg (show ¬ (false = true) by decide), e2]
        rw [ha2] at hr
        have hq := left_perm X i hi
        rw [hr]
        rcases ih (n - 1) b (Q.leftOf X (i : Int)) (items ++ [rdOf ByteArray.empty X (i : Int)]) (by rw [leftOf_length]; omega) (by omega) (by omega) hb with g | ⟨r, b2, g, gp⟩
        · exact .inl g
        · exact .inr ⟨rdOf ByteArray.empty X (i : Int) :: r, b2, by rw [g]; simp, (List.Perm.cons _ gp).trans hq⟩
/-- How often. -/
def cnt (l : List ByteArray) (x : ByteArray) : Nat := l.countP fun y => decide (y.toList = x.toList)
theorem count_loop (l : List ByteArray) (x : ByteArray) (hl : l.length < 100000) (m : Nat) : ∀ (i c k : Nat), i + m = l.length → m < k → c + m < 200000 →
    samphireref16_Count.l0 k l x (c : Int) (i : Int) = some ((c + cnt (l.drop i) x : Nat) : Int) := by
  induction m with
  | zero =>
    intro i c k hi hk hc
    obtain ⟨k, rfl⟩ : ∃ j, k = j + 1 := ⟨k - 1, by omega⟩
    rw [samphireref16_Count.l0, List.drop_of_length_le (by omega)]
    exact iff_ (by omega) rfl
  | succ m ih =>
    intro i c k hi hk hc
    obtain ⟨k, rfl⟩ : ∃ j, k = j + 1 := ⟨k - 1, by omega⟩
    have hi2 : i < l.length := by omega
    have e0 : rdOf ByteArray.empty l (i : Int) = l[i] := by unfold rdOf; rw [Int.toNat_natCast, List.getD_eq_getElem?_getD, List.getElem?_eq_getElem hi2]; rfl
    have ed : l.drop i = l[i] :: l.drop (i + 1) := by rw [List.getElem_cons_drop]
    have w1 : wrap64 ((i : Int) + 1) = ((i + 1 : Nat) : Int) := by unfold wrap64; omega
    have w2 : wrap64 ((c : Int) + 1) = ((c + 1 : Nat) : Int) := by unfold wrap64; omega
    rw [samphireref16_Count.l0, e0, ed, w1, w2]
    refine ift (by omega) (ift (by omega) ?_)
    unfold cnt
    rw [List.countP_cons]
    by_cases h : l[i].toList = x.toList
    · refine ift h ?_
      rw [ih (i + 1) (c + 1) k (by omega) (by omega) (by omega), decide_eq_true h, if_pos rfl]
      unfold cnt
      congr 1
      omega
    · refine iff_ h ?_
      rw [ih (i + 1) c k (by omega) (by omega) (by omega), decide_eq_false h, if_neg (by decide)]
      rfl
theorem count_eq (l : List ByteArray) (x : ByteArray) (hl : l.length < 100000) (k : Nat) (hk : l.length < k) : samphireref16_Count.f k l x = some ((cnt l x : Nat) : Int) := by
  have := count_loop l x hl l.length 0 0 k (by omega) hk (by omega)
  rw [List.drop_zero, Nat.zero_add] at this
  exact this
theorem small_loop (l : List ByteArray) (hl : l.length ≤ 60) (m : Nat) : ∀ (i k : Nat), i + m = l.length → m < k → ∃ b, samphireref16_Small.l0 k l (i : Int) = some b := by
  induction m with
  | zero =>
    intro i k hi hk
    obtain ⟨k, rfl⟩ : ∃ j, k = j + 1 := ⟨k - 1, by omega⟩
    exact ⟨true, by rw [samphireref16_Small.l0]; exact iff_ (by omega) rfl⟩
  | succ m ih =>
    intro i k hi hk
    obtain ⟨k, rfl⟩ : ∃ j, k = j + 1 := ⟨k - 1, by omega⟩
    obtain ⟨b, e⟩ := ih (i + 1) k (by omega) (by omega)
    have ew : wrap64 ((i : Int) + 1) = ((i + 1 : Nat) : Int) := by unfold wrap64; omega
    by_cases h : ((rdOf ByteArray.empty l (i : Int)).size : Int) > 100
    · exact ⟨false, by rw [samphireref16_Small.l0]; exact ift (by omega) (ift (by omega) (ift h rfl))⟩
    · exact ⟨b, by rw [samphireref16_Small.l0]; exact ift (by omega) (ift (by omega) (iff_ h (by rw [ew]; exact e)))⟩
theorem small_eq (l : List ByteArray) (k : Nat) (hk : 70 < k) : ∃ b, samphireref16_Small.f k l = some b ∧ (b = true → l.length ≤ 60) := by
  unfold samphireref16_Small.f
  by_cases h : l.length ≤ 60
  · obtain ⟨b, e⟩ := small_loop l h l.length 0 k (by omega) (by omega)
    exact ⟨b, iff_ (by omega) e, fun _ => h⟩
  · exact ⟨false, ift (by omega) rfl, fun g => by cases g⟩
theorem right_total (K N : Int) (X : List ByteArray) (h0 : 0 ≤ N) (h1 : N < 18446744073709551616) (hl : X.length < 9223372036854775807) : ∃ b, reserve_Right.f K N X = some b := by
  unfold reserve_Right.f
  exact ⟨_, if_pos ⟨h0, h1, hl⟩⟩
theorem right_none (K N : Int) (X : List ByteArray) (h : reserve_Right.f K N X = some true) : reserve_Right.f K 0 [] = some true := by
  obtain ⟨k1, k2, _⟩ := right_facts h
  unfold reserve_Right.f
  rw [if_pos ⟨by omega, by omega, by simp⟩]
  unfold rightB mn long
  rw [if_neg (by omega), decide_eq_true ⟨k1, k2, by omega, rfl⟩]
  rfl
theorem reserveNone_walk (K N : Int) (A : Option Addr) (c : Nat) (X : List ByteArray) (AL : Option Addr) (cL : Nat) (l : List Int) (first : Bool) (w : World)
    (wK : (Lit.int .i64 K).wf = true) (wN : (Lit.int .u64 N).wf = true) (hX : Kd.C Kd.string w A X.length X) (hc : X.length ≤ c) (hL : Kd.C (Kd.int .u64) w AL l.length l) (hcL : l.length ≤ cL) (hw : ∀ x ∈ l, (Lit.int .u64 x).wf = true) :
    Calls Try.prog 7 #[.agg #[.int .i64 K, .int .u64 N, .slice A X.length c], .slice AL l.length cL, .bool first] w fun e w' => e = .returned (.bool true) ∧ Below w.heap.size w w' := by
  have hN : 0 ≤ N ∧ N < 18446744073709551616 := by
    simp [Lit.wf, IntKind.min, IntKind.max, IntKind.signed, IntKind.bits] at wN
    omega
  have hmax := Kd.C_max hX
  obtain ⟨b, hb, hb2⟩ := small_eq X 2000 (by omega)
  have haw := awake' (k := 2000) (by omega)
  cases b with
  | false => exact none_out 2000 K N A c X AL cL l first w hX hc haw (.inl hb)
  | true =>
    have h60 := hb2 rfl
    obtain ⟨t, ht⟩ := right_total K N X hN.1 hN.2 (by omega)
    cases t with
    | false => exact none_out 2000 K N A c X AL cL l first w hX hc haw (.inr ⟨hb, .inl ht⟩)
    | true =>
      by_cases h200 : 200 < l.length
      · exact none_out 2000 K N A c X AL cL l first w hX hc haw (.inr ⟨hb, .inr ⟨ht, .inl h200⟩⟩)
      · by_cases h1000 : 1000 < N
        · exact none_out 2000 K N A c X AL cL l first w hX hc haw (.inr ⟨hb, .inr ⟨ht, .inr ⟨by omega, h1000⟩⟩⟩)
        · obtain ⟨k1, k2, n0, n1, x1, xl⟩ := right_facts ht
          have hr0 := right_none K N X ht
          obtain ⟨xs, hxs⟩ := words_of l hw
          obtain ⟨n, rfl⟩ : ∃ n : Nat, N = (n : Int) := ⟨N.toNat, by omega⟩
          have hmin : min K (n : Int) = (X.length : Int) := by
            rw [xl]; unfold mn; split <;> omega
          have hge : X.length ≤ n := by unfold mn at xl; split at xl <;> omega
          have ca : Kd.C Kd.string w none ([] : List ByteArray).length [] := Kd.C_nil _ _
          have cc : ∀ (r : List ByteArray), r.Perm X → ∀ x ∈ X, ∃ q, samphireref16_Count.f 2000 r x = some q ∧ samphireref16_Count.f 2000 X x = some q := by
            intro r hr x _
            have hrl := hr.length_eq
            refine ⟨((cnt X x : Nat) : Int), ?_, count_eq X x (by omega) 2000 (by omega)⟩
            rw [count_eq r x (by omega) 2000 (by omega)]
            unfold cnt
            rw [hr.countP_eq]
          cases first with
          | true =>
            have ew : IntKind.u64.wrap (0 + (n : Int)) = (n : Int) := by rw [wrapE]; omega
            have hf : ∀ t, rounds (l.length + 5) l X.length 0 [] (n : Int) X 0 [] = some t → reserve_Merge.f K 0 [] K (n : Int) X l 0 = (match t with | some (items, a) => some (K, (n : Int), items, l, a, 0) | none => some (0, 0, [], l, 0, 8)) := by
              intro t hrt
              unfold reserve_Merge.f
              refine bnd hr0 (bnd ht (ift ⟨rfl, rfl, rfl, by rw [ew]; omega⟩ ?_))
              rw [ew, hmin, Int.toNat_natCast]
              exact bnd hrt rfl
            rcases rounds_b hxs (by omega) X.length n 0 X [] rfl hge (by omega) (Nat.zero_le _) with g | ⟨r, b, g, gp⟩
            · exact none_in 2000 K n A c X AL cL l true w hX hc hL hcL haw hb ht (by omega) (by omega) 0 none 0 [] n A c X ca (Nat.le_refl _) hX hc (.inl ⟨rfl, rfl, rfl, rfl, rfl, rfl, rfl, rfl, rfl⟩) _ _ _ _ _ _ (hf _ g) (.inl ⟨rfl, rfl⟩)
            · exact none_in 2000 K n A c X AL cL l true w hX hc hL hcL haw hb ht (by omega) (by omega) 0 none 0 [] n A c X ca (Nat.le_refl _) hX hc (.inl ⟨rfl, rfl, rfl, rfl, rfl, rfl, rfl, rfl, rfl⟩) _ _ _ _ _ _ (hf _ g) (.inr ⟨rfl, rfl, rfl, by rw [List.nil_append]; exact gp.length_eq, by rw [List.nil_append]; exact cc r gp⟩)
          | false =>
            have ew : IntKind.u64.wrap ((n : Int) + 0) = (n : Int) := by rw [wrapE]; omega
            have hf : ∀ t, rounds (l.length + 5) l X.length (n : Int) X 0 [] 0 [] = some t → reserve_Merge.f K (n : Int) X K 0 [] l 0 = (match t with | some (items, a) => some (K, (n : Int), items, l, a, 0) | none => some (0, 0, [], l, 0, 8)) := by
              intro t hrt
              unfold reserve_Merge.f
              refine bnd ht (bnd hr0 (ift ⟨rfl, rfl, rfl, by rw [ew]; omega⟩ ?_))
              rw [ew, hmin, Int.toNat_natCast]
              exact bnd hrt rfl
            rcases rounds_a hxs (by omega) X.length n 0 X [] rfl hge (by omega) (Nat.zero_le _) with g | ⟨r, b, g, gp⟩
            · exact none_in 2000 K n A c X AL cL l false w hX hc hL hcL haw hb ht (by omega) (by omega) n A c X 0 none 0 [] hX hc ca (Nat.le_refl _) (.inr ⟨rfl, rfl, rfl, rfl, rfl, rfl, rfl, rfl, rfl⟩) _ _ _ _ _ _ (hf _ g) (.inl ⟨rfl, rfl⟩)
            · exact none_in 2000 K n A c X AL cL l false w hX hc hL hcL haw hb ht (by omega) (by omega) n A c X 0 none 0 [] hX hc ca (Nat.le_refl _) (.inr ⟨rfl, rfl, rfl, rfl, rfl, rfl, rfl, rfl, rfl⟩) _ _ _ _ _ _ (hf _ g) (.inr ⟨rfl, rfl, rfl, by rw [List.nil_append]; exact gp.length_eq, by rw [List.nil_append]; exact cc r gp⟩)
end Go.Proofs.Ythgacimoifbhiaa.Pure
