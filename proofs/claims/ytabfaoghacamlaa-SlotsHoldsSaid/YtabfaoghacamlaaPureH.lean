/- slots over plain lists, whatever the words: each place has a key that was there, or the new one; or the words are dry. -/
import Derived.Test.YtabfaoghacamlaaHx4
import Derived.Test.YtabfaoghacamlaaDrawH
namespace Go.Proofs.Ytabfaoghacamlaa.PureH
open Go.RowKit Go.Proofs.Ytabfaoghacamlaa.Q Go.Proofs.Ytabfaoghacamlaa.H Go.Proofs.YtabfaoghacamlaaW.PrintWords Go.Proofs.YtabfaoghacamlaaW.PrintLast Go.Proofs.Ytabfaoghacamlaa.DrawH
set_option linter.unusedVariables false
theorem awake0 : samphirelaw17_awake.f 30 = some true := by decide +kernel
theorem awake' {k : Nat} (h : 30 ≤ k) : samphirelaw17_awake.f k = some true := by
  obtain ⟨j, rfl⟩ : ∃ j, k = 30 + j := ⟨k - 30, by omega⟩
  exact more_rounds samphirelaw17_awake.mono 30 j true awake0
theorem rd_at (l : List ByteArray) (i : Nat) (h : i < l.length) : rdOf ByteArray.empty l (i : Int) = l[i] := by
  unfold rdOf
  rw [Int.toNat_natCast, List.getD_eq_getElem?_getD, List.getElem?_eq_getElem h]; rfl
theorem wrap_u (n : Nat) (h : n < 18446744073709551616) : IntKind.u64.wrap (n : Int) = (n : Int) := by rw [IntKind.wrap_u64]; omega
theorem new_ (n : Nat) (h1 : 1 ≤ n) (h2 : n ≤ 1024) : slots_New.f (n : Int) = some ((n : Int), 0, [], 0) := by
  unfold slots_New.f
  rw [if_neg (by omega), if_neg (by omega)]
theorem rep1 (x : ByteArray) (n : Nat) (h1 : 1 ≤ n) (h2 : n ≤ 1024) : rep_.f [x] (n : Int) = some (List.replicate n x) := by
  unfold rep_.f
  rw [if_pos ⟨rfl, by omega, by omega⟩, Int.toNat_natCast]; rfl
theorem long_no (l : List ByteArray) (h : ∀ x ∈ l, x.size ≤ 64) : long l = false := by
  unfold long
  rw [List.any_eq_false]; intro x hx; have := h x hx; simp; omega
theorem right0 (n : Nat) (h1 : 1 ≤ n) (h2 : n ≤ 1024) : slots_Right.f (n : Int) 0 [] = some true := by
  unfold slots_Right.f
  rw [if_pos (by decide)]
  unfold rightB
  rw [decide_eq_true ⟨by omega, by omega, rfl⟩]; rfl
theorem right1 (n : Nat) (T : Int) (hT : 0 < T) (l : List ByteArray) (hl : l.length = n) (hs : ∀ x ∈ l, x.size ≤ 64) (h1 : 1 ≤ n) (h2 : n ≤ 1024) : slots_Right.f (n : Int) T l = some true := by
  unfold slots_Right.f
  rw [if_pos (by omega)]
  unfold rightB
  rw [decide_eq_true ⟨by omega, by omega, by unfold mn; rw [if_pos hT, hl]⟩, long_no l hs]; rfl
theorem add_first (k n : Nat) (h1 : 1 ≤ n) (h2 : n ≤ 1024) (x : ByteArray) (hx : x.size ≤ 64) (wt : Nat) (hw : 0 < wt) (hw2 : wt < 18446744073709551616) (l : List Int) (a : Int) :
    slots_Add.f k (n : Int) 0 [] x (wt : Int) l a = some ((n : Int), (wt : Int), List.replicate n x, l, a, 0) := by
  unfold slots_Add.f
  refine bnd (right0 n h1 h2) ?_
  refine ift rfl (iff_ (by omega) (iff_ (by omega) ?_))
  rw [Int.zero_add, wrap_u wt hw2]
  refine iff_ (by omega) (bnd (rep1 x n h1 h2) ?_)
  rw [if_pos rfl]
/-- What is picked lies within the words. -/
theorem pick_le (M d : Nat) (xs : List Nat) : ∀ (i x j : Nat), pick M d xs i = some (x, j) → j ≤ i + xs.length := by
  induction xs with
  | nil => intro i x j h; cases h
  | cons y ys ih =>
    intro i x j h
    rw [pick] at h
    split at h
    · cases h; simp
    · have := ih (i + 1) x j h; simp; omega
/-- Below, whatever the words: a number, or the words are dry. -/
theorem below_any (D : Nat) (h0 : 0 < D) (hD : D < 18446744073709551616) {l : List Int} {xs : List Nat} (h : Words l xs) (a : Nat) (ha : a ≤ xs.length) (hl : xs.length < 4611686018427387904) (k : Nat) (hk : xs.length < k) :
    (∃ (v : Int) (b : Nat), b ≤ xs.length ∧ draw_Below.f k l (a : Int) (D : Int) = some (v, l, (b : Int), 0)) ∨ draw_Below.f k l (a : Int) (D : Int) = some (0, l, (a : Int), 8) := by
  have e := below D _ h0 hD rfl (Lib.bitLen_le (D - 1) 64 (Nat.le_refl _) (by omega)) h a ha hl k hk
  rw [e]
  by_cases hm : Lib.bitLen (D - 1) = 0
  · rw [if_pos hm]; exact .inl ⟨0, a, ha, rfl⟩
  · rw [if_neg hm]
    rcases hp : pick (2 ^ Lib.bitLen (D - 1)) D (xs.drop a) 0 with _ | ⟨x, j⟩
    · exact .inr rfl
    · have := pick_le _ _ _ _ _ _ hp
      rw [List.length_drop] at this
      exact .inl ⟨x, a + j, by omega, rfl⟩
theorem mem_set {l : List ByteArray} {i : Nat} {x y : ByteArray} (h : y ∈ l.set i x) : y ∈ l ∨ y = x := by
  rcases List.mem_or_eq_of_mem_set h with h | h
  · exact .inl h
  · exact .inr h
/-- The choice, place by place, whatever the words. -/
theorem choose_any (x : ByteArray) (T wt D : Nat) (hTD : IntKind.u64.wrap ((T : Int) + (wt : Int)) = (D : Int)) (h0 : 0 < D) (hD : D < 18446744073709551616) {l : List Int} {xs : List Nat} (h : Words l xs) (hl : xs.length < 4611686018427387904)
    (lq : List Int) (aq : Int) (n : Nat) (hn : n < 4611686018427387904) (P : ByteArray → Prop) (hx : P x) (m : Nat) :
    ∀ (i k a : Nat) (out : List ByteArray), i + m = n → m + xs.length + 1 < k → out.length = n → a ≤ xs.length → (∀ y ∈ out, P y) →
      (∃ (R : List ByteArray) (b : Nat), b ≤ xs.length ∧ R.length = n ∧ (∀ y ∈ R, P y) ∧ slots_choose.l0 k (List.replicate n x) (T : Int) (wt : Int) out (n : Int) (i : Int) lq aq l (a : Int) = some (R, l, (b : Int), 0)) ∨
      slots_choose.l0 k (List.replicate n x) (T : Int) (wt : Int) out (n : Int) (i : Int) lq aq l (a : Int) = some ([], lq, aq, 8) := by
  induction m with
  | zero =>
    intro i k a out hi hk ho ha hP
    obtain ⟨k, rfl⟩ : ∃ j, k = j + 1 := ⟨k - 1, by omega⟩
    refine .inl ⟨out, a, ha, ho, hP, ?_⟩
    rw [slots_choose.l0, if_neg (by omega)]
  | succ m ih =>
    intro i k a out hi hk ho ha hP
    obtain ⟨k, rfl⟩ : ∃ j, k = j + 1 := ⟨k - 1, by omega⟩
    rw [slots_choose.l0, if_pos (by omega), hTD]
    rcases below_any D h0 hD h a ha hl k (by omega) with ⟨v, b, hb, e⟩ | e
    · rw [e]
      simp only [Option.bind_some]
      rw [if_pos trivial]
      by_cases hv : v < (wt : Int)
      · rw [if_pos hv, if_pos (by omega), if_pos (by rw [List.length_replicate]; omega), if_pos (by omega), rd_at _ i (by rw [List.length_replicate]; omega), List.getElem_replicate, Int.toNat_natCast, wrap64_add1 i (by omega)]
        exact ih (i + 1) k b _ (by omega) (by omega) (by rw [List.length_set]; exact ho) hb (fun y hy => (mem_set hy).elim (hP y) (fun e => e ▸ hx))
      · rw [if_neg hv, wrap64_add1 i (by omega)]
        exact ih (i + 1) k b _ (by omega) (by omega) ho hb hP
    · rw [e]
      simp only [Option.bind_some]
      rw [if_neg (by decide)]
      exact .inr rfl
/-- One more came, and some were there; whatever the words. -/
theorem add_any (k n : Nat) (h1 : 1 ≤ n) (h2 : n ≤ 1024) (T wt : Nat) (hT : 0 < T) (hw : 0 < wt) (hs : T + wt < 18446744073709551616) (old : List ByteArray) (ho : old.length = n) (hold : ∀ x ∈ old, x.size ≤ 64)
    (x : ByteArray) (hx : x.size ≤ 64) {l : List Int} {xs : List Nat} (h : Words l xs) (hl : xs.length < 4611686018427387904) (a : Nat) (ha : a ≤ xs.length) (P : ByteArray → Prop) (hPx : P x) (hP : ∀ y ∈ old, P y) (hk : n + xs.length + 1 < k) :
    (∃ (R : List ByteArray) (b : Nat), b ≤ xs.length ∧ R.length = n ∧ (∀ y ∈ R, P y) ∧ slots_Add.f k (n : Int) (T : Int) old x (wt : Int) l (a : Int) = some ((n : Int), ((T + wt : Nat) : Int), R, l, (b : Int), 0)) ∨
    slots_Add.f k (n : Int) (T : Int) old x (wt : Int) l (a : Int) = some ((n : Int), (T : Int), old, l, (a : Int), 8) := by
  have e : IntKind.u64.wrap ((T : Int) + (wt : Int)) = ((T + wt : Nat) : Int) := by rw [← Int.natCast_add]; exact wrap_u _ hs
  have hc : slots_choose.f k old (List.replicate n x) (T : Int) (wt : Int) l (a : Int) = slots_choose.l0 k (List.replicate n x) (T : Int) (wt : Int) old (n : Int) ((0 : Nat) : Int) l (a : Int) l (a : Int) := by
    unfold slots_choose.f
    refine bnd (x := old) (by unfold clone_.f; rw [if_pos (by omega)]) ?_
    rw [ho]; rfl
  have hA : slots_Add.f k (n : Int) (T : Int) old x (wt : Int) l (a : Int) = (slots_choose.f k old (List.replicate n x) (T : Int) (wt : Int) l (a : Int)).bind fun bt141 => (if bt141.2.2.2 = 0 then (some ((n : Int), ((T + wt : Nat) : Int), bt141.1, bt141.2.1, bt141.2.2.1, (0 : Int))) else (some ((n : Int), (T : Int), old, l, (a : Int), bt141.2.2.2))) := by
    unfold slots_Add.f
    refine bnd (right1 n T (by omega) old ho hold h1 h2) ?_
    refine ift rfl (iff_ (by omega) (iff_ (by omega) ?_))
    rw [e]
    refine iff_ (by omega) (bnd (rep1 x n h1 h2) ?_)
    rw [if_neg (by omega)]
  rw [hA, hc]
  rcases choose_any x T wt (T + wt) e (by omega) hs h hl l (a : Int) n (by omega) P hPx n 0 k a old (by omega) hk ho ha hP with ⟨R, b, hb, hR, hRP, e1⟩ | e1
  · rw [e1]; exact .inl ⟨R, b, hb, hR, hRP, rfl⟩
  · rw [e1]; exact .inr rfl
theorem same_loop (l : List ByteArray) (hl : l.length ≤ 1024) (m : Nat) : ∀ (i k : Nat), i + m = l.length → m < k → samphireref16_Strings.l0 k l l (i : Int) = some true := by
  induction m with
  | zero =>
    intro i k hi hk
    obtain ⟨k, rfl⟩ : ∃ j, k = j + 1 := ⟨k - 1, by omega⟩
    simp only [samphireref16_Strings.l0]
    rw [if_neg (by omega)]
  | succ m ih =>
    intro i k hi hk
    obtain ⟨k, rfl⟩ : ∃ j, k = j + 1 := ⟨k - 1, by omega⟩
    simp only [samphireref16_Strings.l0]
    rw [if_pos (by omega), if_pos (by omega), if_pos (by omega), if_pos trivial, wrap64_add1 i (by omega)]
    exact ih (i + 1) k (by omega) (by omega)
theorem same (K T : Int) (l : List ByteArray) (hl : l.length ≤ 1024) (k : Nat) (hk : l.length < k) : samphireref17_Same.f k K T l K T l = some true := by
  unfold samphireref17_Same.f
  rw [if_pos rfl, if_pos rfl]
  refine bnd (x := true) ?_ rfl
  unfold samphireref16_Strings.f
  rw [if_pos rfl]
  exact same_loop l hl l.length 0 k (by omega) (by omega)
/-- A key that came is counted. -/
theorem count_loop (l : List ByteArray) (x : ByteArray) (hl : l.length < 4611686018427387904) (m : Nat) : ∀ (i k c : Nat), c ≤ i → i + m = l.length → m < k →
    ∃ r : Nat, samphireref16_Count.l0 k l x (c : Int) (i : Int) = some (r : Int) ∧ c ≤ r ∧ (x ∈ l.drop i → 0 < r) := by
  induction m with
  | zero =>
    intro i k c hc hi hk
    obtain ⟨k, rfl⟩ : ∃ j, k = j + 1 := ⟨k - 1, by omega⟩
    refine ⟨c, ?_, Nat.le_refl _, fun h => ?_⟩
    · rw [samphireref16_Count.l0, if_neg (by omega)]
    · rw [List.drop_of_length_le (by omega)] at h; cases h
  | succ m ih =>
    intro i k c hc hi hk
    obtain ⟨k, rfl⟩ : ∃ j, k = j + 1 := ⟨k - 1, by omega⟩
    rw [samphireref16_Count.l0, if_pos (by omega), if_pos (by omega), rd_at _ i (by omega), wrap64_add1 i (by omega)]
    by_cases h : l[i].toList = x.toList
    · rw [if_pos h, wrap64_add1 c (by omega)]
      obtain ⟨r, h1, h2, h3⟩ := ih (i + 1) k (c + 1) (by omega) (by omega) (by omega)
      exact ⟨r, h1, by omega, fun _ => by omega⟩
    · rw [if_neg h]
      obtain ⟨r, h1, h2, h3⟩ := ih (i + 1) k c (by omega) (by omega) (by omega)
      refine ⟨r, h1, h2, fun hx => h3 ?_⟩
      rw [List.drop_eq_getElem_cons (by omega)] at hx
      rcases List.mem_cons.1 hx with e | hx
      · exact absurd (by rw [e]) h
      · exact hx
theorem count_ (l : List ByteArray) (x : ByteArray) (hl : l.length < 4611686018427387904) (k : Nat) (hk : l.length < k) (hx : x ∈ l) : ∃ r : Nat, samphireref16_Count.f k l x = some (r : Int) ∧ 0 < r := by
  obtain ⟨r, h1, _, h3⟩ := count_loop l x hl l.length 0 k 0 (Nat.le_refl _) (by omega) hk
  exact ⟨r, h1, h3 (by rwa [List.drop_zero])⟩
end Go.Proofs.Ytabfaoghacamlaa.PureH
