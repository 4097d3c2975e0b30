/- SlotsFirst, over plain lists, and its walk. -/
import Derived.Test.YtabfaoghacamlaaFx6
namespace Go.Proofs.Ytabfaoghacamlaa.Pure
open Go.RowKit Go.Proofs.Ytabfaoghacamlaa.Q Go.Proofs.Ytabfaoghacamlaa.F Go.Proofs.YtabfaoghacamlaaW.PrintWords Go.Proofs.YtabfaoghacamlaaW.PrintLast
set_option linter.unusedVariables false
theorem bnd {α β : Type} {o : Option α} {f : α → Option β} {x : α} {r : Option β} (h : o = some x) (h2 : f x = r) : o.bind f = r := by subst h; exact h2
theorem ift {α : Type} {c : Prop} {d : Decidable c} {x y r : α} (h : c) (h2 : x = r) : (@ite α c d x y) = r := by rw [if_pos h]; exact h2
theorem iff_ {α : Type} {c : Prop} {d : Decidable c} {x y r : α} (h : ¬ c) (h2 : y = r) : (@ite α c d x y) = r := by rw [if_neg h]; exact h2
theorem awake0 : samphirelaw17_awake.f 30 = some true := by decide +kernel
theorem awake' {k : Nat} (h : 30 ≤ k) : samphirelaw17_awake.f k = some true := by
  obtain ⟨j, rfl⟩ : ∃ j, k = 30 + j := ⟨k - 30, by omega⟩
  exact more_rounds samphirelaw17_awake.mono 30 j true awake0
theorem rd_at (l : List ByteArray) (i : Nat) (h : i < l.length) : rdOf ByteArray.empty l (i : Int) = l[i] := by
  unfold rdOf
  rw [Int.toNat_natCast, List.getD_eq_getElem?_getD, List.getElem?_eq_getElem h]; rfl
theorem wrap64_add1 (n : Nat) (h : n < 9223372036854775807) : wrap64 ((n : Int) + 1) = ((n + 1 : Nat) : Int) := by unfold wrap64; omega
theorem wrap_u (n : Int) (h0 : 0 ≤ n) (h : n < 18446744073709551616) : IntKind.u64.wrap n = n := by rw [IntKind.wrap_u64]; omega
theorem rep1 (x : ByteArray) (n : Nat) (h1 : 1 ≤ n) (h2 : n ≤ 1024) : rep_.f [x] (n : Int) = some (List.replicate n x) := by
  unfold rep_.f
  rw [if_pos ⟨rfl, by omega, by omega⟩, Int.toNat_natCast]; rfl
theorem right0 (n : Nat) (h1 : 1 ≤ n) (h2 : n ≤ 1024) : slots_Right.f (n : Int) 0 [] = some true := by
  unfold slots_Right.f
  rw [if_pos (by decide)]
  unfold rightB
  rw [decide_eq_true ⟨by omega, by omega, rfl⟩]; rfl
theorem add_first (k n : Nat) (h1 : 1 ≤ n) (h2 : n ≤ 1024) (x : ByteArray) (hx : x.size ≤ 64) (wt : Int) (hw : 0 < wt) (hw2 : wt < 18446744073709551616) (l : List Int) (a : Int) :
    slots_Add.f k (n : Int) 0 [] x wt l a = some ((n : Int), wt, List.replicate n x, l, a, 0) := by
  unfold slots_Add.f
  refine bnd (right0 n h1 h2) ?_
  refine ift rfl (iff_ (by omega) (iff_ (by omega) ?_))
  rw [Int.zero_add, wrap_u wt (by omega) hw2]
  refine iff_ (by omega) (bnd (rep1 x n h1 h2) ?_)
  rw [if_pos rfl]
theorem small (l : List ByteArray) (hl : l.length ≤ 60) (m : Nat) : ∀ (i k : Nat), i + m = l.length → m < k → ∃ b, samphireref16_Small.l0 k l (i : Int) = some b := by
  induction m with
  | zero =>
    intro i k hi hk
    obtain ⟨k, rfl⟩ : ∃ j, k = j + 1 := ⟨k - 1, by omega⟩
    exact ⟨true, by simp only [samphireref16_Small.l0]; rw [if_neg (by omega)]⟩
  | succ m ih =>
    intro i k hi hk
    obtain ⟨k, rfl⟩ : ∃ j, k = j + 1 := ⟨k - 1, by omega⟩
    simp only [samphireref16_Small.l0]
    rw [if_pos (by omega), if_pos (by omega)]
    by_cases hc : ((rdOf ByteArray.empty l (i : Int)).size : Int) > 100
    · exact ⟨false, by rw [if_pos hc]⟩
    · rw [if_neg hc, wrap64_add1 i (by omega)]
      exact ih (i + 1) k (by omega) (by omega)
theorem same_loop (l : List ByteArray) (hl : l.length ≤ 60) (m : Nat) : ∀ (i k : Nat), i + m = l.length → m < k → samphireref16_Strings.l0 k l l (i : Int) = some true := by
  induction m with
  | zero =>
    intro i k hi hk
    obtain ⟨k, rfl⟩ : ∃ j, k = j + 1 := ⟨k - 1, by omega⟩
    simp only [samphireref16_Strings.l0]
    rw [if_neg (by omega)]
  | succ m ih =>
    intro i k hi hk
    obtain ⟨k, rfl⟩ : ∃ j, k = j + 1 := ⟨k - 1, by omega⟩
    simp only [samphireref16_Strings.l0]
    rw [if_pos (by omega), if_pos (by omega), if_pos (by omega), if_pos trivial, wrap64_add1 i (by omega)]
    exact ih (i + 1) k (by omega) (by omega)
theorem same (K T : Int) (l : List ByteArray) (hl : l.length ≤ 60) (k : Nat) (hk : 61 ≤ k) : samphireref17_Same.f k K T l K T l = some true := by
  unfold samphireref17_Same.f
  rw [if_pos rfl, if_pos rfl]
  refine bnd (x := true) ?_ rfl
  unfold samphireref16_Strings.f
  rw [if_pos rfl]
  exact same_loop l hl l.length 0 k (by omega) (by omega)
theorem count_loop (x : ByteArray) (n : Nat) (hn : n ≤ 60) (m : Nat) : ∀ (i k : Nat), i + m = n → m < k → samphireref16_Count.l0 k (List.replicate n x) x (i : Int) (i : Int) = some (n : Int) := by
  induction m with
  | zero =>
    intro i k hi hk
    obtain ⟨k, rfl⟩ : ∃ j, k = j + 1 := ⟨k - 1, by omega⟩
    obtain rfl : i = n := by omega
    rw [samphireref16_Count.l0, List.length_replicate, if_neg (by omega)]
  | succ m ih =>
    intro i k hi hk
    obtain ⟨k, rfl⟩ : ∃ j, k = j + 1 := ⟨k - 1, by omega⟩
    rw [samphireref16_Count.l0, List.length_replicate, if_pos (by omega), if_pos (by omega), rd_at _ i (by rw [List.length_replicate]; omega), List.getElem_replicate, if_pos rfl, wrap64_add1 i (by omega)]
    exact ih (i + 1) k (by omega) (by omega)
theorem merge_ (k : Nat) (n : Nat) (T : Int) (l : List ByteArray) (h1 : 1 ≤ n) (h2 : n ≤ 1024) (hT : 0 ≤ T) (hT2 : T < 18446744073709551616) (hr : slots_Right.f (n : Int) T l = some true) (hl : T = 0 → l = []) :
    slots_Merge.f (k + 1) (n : Int) T l (n : Int) 0 [] [] 0 = some ((n : Int), T, l, [], 0, 0) ∧ slots_Merge.f (k + 1) (n : Int) 0 [] (n : Int) T l [] 0 = some ((n : Int), T, l, [], 0, 0) := by
  constructor
  · unfold slots_Merge.f
    refine bnd hr (ift rfl (bnd (right0 n h1 h2) ?_))
    rw [slots_Merge.j0, Int.add_zero, wrap_u T hT hT2]
    exact iff_ (by simp) (ift rfl (iff_ (by omega) (ift rfl rfl)))
  · unfold slots_Merge.f
    refine bnd (right0 n h1 h2) (ift rfl (bnd hr ?_))
    rw [slots_Merge.j0, Int.zero_add, wrap_u T hT hT2]
    refine iff_ (by simp) (ift rfl (iff_ (by omega) ?_))
    by_cases h0 : T = 0
    · rw [if_pos h0]; obtain rfl := hl h0; subst h0; rfl
    · rw [if_neg h0, if_pos rfl]
theorem first_go (k n : Nat) (T : Int) (l : List ByteArray) (key : ByteArray) (wt : Int) (hk : 100 ≤ k) (h1 : 1 ≤ n) (h2 : n ≤ 60) (hT : 0 ≤ T) (hT2 : T < 18446744073709551616) (hr : slots_Right.f (n : Int) T l = some true) (hl : T = 0 → l = []) (hl2 : l.length ≤ 60)
    (hkey : key.size ≤ 64) (hw : 0 < wt) (hw2 : wt < 18446744073709551616) : samphirelaw17_SlotsFirst.j0 k key wt false (n : Int) T l = some true := by
  obtain ⟨k, rfl⟩ : ∃ j, k = j + 2 := ⟨k - 2, by omega⟩
  obtain ⟨m1, m2⟩ := merge_ k n T l h1 (by omega) hT hT2 hr hl
  show samphirelaw17_SlotsFirst.j0 ((k + 1) + 1) _ _ _ _ _ _ = _
  rw [samphirelaw17_SlotsFirst.j0]
  refine iff_ (by simp) (bnd (add_first (k + 1) n h1 (by omega) key hkey wt hw hw2 [] 0) (bnd m1 (bnd m2 ?_)))
  dsimp only
  refine ift rfl (ift rfl (bnd (x := (n : Int)) ?_ (ift rfl (ift rfl (ift rfl (ift rfl (ift (by decide +kernel) ?_)))))))
  · unfold samphireref16_Count.f
    exact count_loop key n h2 n 0 (k + 1) (by omega) (by omega)
  · refine bnd rfl (bnd rfl (bnd (same (n : Int) T l hl2 (k + 1) (by omega)) (ift rfl (bnd rfl (bnd rfl (bnd (same (n : Int) T l hl2 (k + 1) (by omega)) (ift rfl ?_)))))))
    exact bnd (awake' (by omega)) rfl
theorem sleeps (k : Nat) (hk : 40 ≤ k) (key : ByteArray) (wt K T : Int) (l : List ByteArray) : samphirelaw17_SlotsFirst.j0 k key wt true K T l = some true := by
  obtain ⟨k, rfl⟩ : ∃ j, k = j + 1 := ⟨k - 1, by omega⟩
  rw [samphirelaw17_SlotsFirst.j0, if_pos rfl]
  exact bnd (awake' (by omega)) rfl
theorem SlotsFirst (K T : Int) (l : List ByteArray) (key : ByteArray) (wt : Int) (hT : 0 ≤ T) (hT2 : T < 18446744073709551616) (hw : 0 ≤ wt) (hw2 : wt < 18446744073709551616) : samphirelaw17_SlotsFirst.f 200 K T l key wt = some true := by
  unfold samphirelaw17_SlotsFirst.f
  by_cases h60 : (l.length : Int) > 60
  · refine bnd (x := false) (by unfold samphireref16_Small.f; rw [if_pos h60]) ?_
    rw [if_neg (by simp)]
    exact sleeps 200 (by omega) _ _ _ _ _
  have hl : l.length ≤ 60 := by omega
  obtain ⟨b, hb⟩ := small l hl l.length 0 200 (by omega) (by omega)
  refine bnd (x := b) (by unfold samphireref16_Small.f; rw [if_neg h60]; exact hb) ?_
  cases b with
  | false => rw [if_neg (by simp)]; exact sleeps 200 (by omega) _ _ _ _ _
  | true =>
    rw [if_pos rfl]
    have hR : slots_Right.f K T l = some (rightB K T l) := by unfold slots_Right.f; rw [if_pos (by omega)]
    refine bnd hR ?_
    cases hB : rightB K T l with
    | false => rw [if_neg (by simp)]; exact sleeps 200 (by omega) _ _ _ _ _
    | true =>
      rw [if_pos rfl]
      rw [hB] at hR
      unfold rightB at hB
      rw [Bool.and_eq_true, decide_eq_true_eq] at hB
      obtain ⟨⟨b1, b2, b3⟩, _⟩ := hB
      by_cases hK : K > 60
      · rw [if_pos hK]; exact sleeps 200 (by omega) _ _ _ _ _
      rw [if_neg hK]
      by_cases hk : (key.size : Int) > 64
      · rw [if_pos hk]; exact sleeps 200 (by omega) _ _ _ _ _
      rw [if_neg hk]
      by_cases h0 : wt = 0
      · subst h0; exact sleeps 200 (by omega) _ _ _ _ _
      rw [beq_eq_false_iff_ne.mpr h0]
      obtain ⟨n, rfl⟩ : ∃ n : Nat, K = n := ⟨K.toNat, by omega⟩
      refine first_go 200 n T l key wt (by omega) (by omega) (by omega) hT hT2 hR (fun hz => ?_) hl (by omega) (by omega) hw2
      unfold mn at b3
      rw [if_neg (by omega)] at b3
      exact List.eq_nil_of_length_eq_zero (by omega)
theorem slotsFirst_walk (K T : Int) (A : Option Addr) (c : Nat) (l : List ByteArray) (key : ByteArray) (wt : Int) (W : World) (w0 : (Lit.int .i64 K).wf = true) (w1 : (Lit.int .u64 T).wf = true) (hr : Kd.C Kd.string W A l.length l) (hc : l.length ≤ c) (hk : key.size ≤ 140737488351232) (w2 : (Lit.int .u64 wt).wf = true) :
    Calls Try.prog 7 #[.agg #[.int .i64 K, .int .u64 T, .slice A l.length c], .string key, .int .u64 wt] W fun e w' => e = .returned (.bool true) ∧ Below W.heap.size W w' := by
  have h1 : 0 ≤ T ∧ T < 18446744073709551616 := by simp [Lit.wf, IntKind.min, IntKind.max, IntKind.signed, IntKind.bits] at w1; omega
  have h2 : 0 ≤ wt ∧ wt < 18446744073709551616 := by simp [Lit.wf, IntKind.min, IntKind.max, IntKind.signed, IntKind.bits] at w2; omega
  exact samphirelaw17_SlotsFirst.calls 200 K T A c l key wt true W hr hc (SlotsFirst K T l key wt h1.1 h1.2 h2.1 h2.2)
end Go.Proofs.Ytabfaoghacamlaa.Pure
