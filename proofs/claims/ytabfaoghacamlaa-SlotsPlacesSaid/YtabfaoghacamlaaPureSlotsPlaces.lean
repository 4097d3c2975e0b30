/- SlotsPlaces, over numbers and lists. -/
import Derived.Test.YtabfaoghacamlaaQx5
import Derived.Test.YtabfaoghacamlaaPureA
namespace Go.Proofs.Ytabfaoghacamlaa.Pure
open Go.RowKit Go.Proofs.Ytabfaoghacamlaa.Q Go.Proofs.YtabfaoghacamlaaW.PrintWords Go.Proofs.YtabfaoghacamlaaW.PrintLast Go.Proofs.Ytabfaoghacamlaa.Draw
set_option linter.unusedVariables false
abbrev O : ByteArray := ⟨#[111, 108, 100]⟩
abbrev N : ByteArray := ⟨#[110, 101, 119]⟩
theorem O_no : (O.toList == ([110, 101, 119] : List UInt8)) = false := by decide +kernel
theorem N_yes : (N.toList == ([110, 101, 119] : List UInt8)) = true := by decide +kernel
theorem below64 {l : List Int} {xs : List Nat} (h : Words l xs) (hl : xs.length < 4611686018427387904) (i : Nat) (hi : i < xs.length) (k : Nat) (hk : xs.length + 1 ≤ k) :
    draw_Below.f k l ((0 + i : Nat) : Int) ((64 : Nat) : Int) = some (((xs.getD i 0 % 64 : Nat) : Int), l, ((0 + (i + 1) : Nat) : Int), 0) := by
  rw [Nat.zero_add, Nat.zero_add]
  have := below 64 6 (by omega) (by omega) (by decide +kernel) (by omega) h i (by omega) hl k (by omega)
  rw [if_neg (by omega)] at this
  have hd : xs.drop i = xs.getD i 0 :: xs.drop (i + 1) := by
    rw [List.getD_eq_getElem?_getD, List.getElem?_eq_getElem (by omega), Option.getD_some, List.drop_eq_getElem_cons (by omega)]
  rw [hd, pick, if_pos (Nat.mod_lt _ (by decide))] at this
  rw [this]
theorem places_loop (l : List Int) (xs : List Nat) (h : Words l xs) (n w : Nat) (hn : n ≤ xs.length) (hn2 : n ≤ 8) (R : List ByteArray) (hR : R.length = n)
    (hv : ∀ j, j < n → R.getD j ByteArray.empty = if xs.getD j 0 % 64 < w then N else O) (m : Nat) : ∀ (i k : Nat), i + m = n → m + 40 < k → samphirelaw17_SlotsPlaces.l0 k l (w : Int) R (n : Int) (i : Int) = some true := by
  induction m with
  | zero =>
    intro i k hi hk
    obtain ⟨k, rfl⟩ : ∃ j, k = j + 1 := ⟨k - 1, by omega⟩
    rw [samphirelaw17_SlotsPlaces.l0, if_neg (by omega)]
    exact bnd (awake' (by omega)) rfl
  | succ m ih =>
    intro i k hi hk
    obtain ⟨k, rfl⟩ : ∃ j, k = j + 1 := ⟨k - 1, by omega⟩
    have hlen := h.length
    rw [samphirelaw17_SlotsPlaces.l0]
    refine ift (by omega) (ift (by omega) (ift (by omega) (ift (by omega) ?_)))
    rw [rd_getD, hv i (by omega), h.rd, wrap64_add1 i (by omega)]
    have ht : Int.tmod ((xs.getD i 0 : Nat) : Int) 64 = ((xs.getD i 0 % 64 : Nat) : Int) := by
      rw [Int.tmod_eq_emod_of_nonneg (by omega)]; omega
    rw [ht]
    by_cases hc : xs.getD i 0 % 64 < w
    · rw [if_pos hc, N_yes, decide_eq_true (by omega)]
      refine iff_ (by simp) ?_
      exact ih (i + 1) k (by omega) (by omega)
    · rw [if_neg hc, O_no, decide_eq_false (by omega)]
      refine iff_ (by simp) ?_
      exact ih (i + 1) k (by omega) (by omega)
theorem SlotsPlaces : samphirelaw17_SlotsPlaces.Pure := by
  intro a0 a1 l hw0 hw1 hl hs hz
  obtain ⟨xs, hw⟩ := words_of l hz
  have hlen := hw.length
  have h0 : 0 ≤ a0 ∧ a0 < 256 := by simp [Lit.wf, IntKind.min, IntKind.max, IntKind.signed, IntKind.bits] at hw0; omega
  have h1 : 0 ≤ a1 ∧ a1 < 256 := by simp [Lit.wf, IntKind.min, IntKind.max, IntKind.signed, IntKind.bits] at hw1; omega
  obtain ⟨a, rfl⟩ : ∃ a : Nat, a0 = (a : Int) := ⟨a0.toNat, by omega⟩
  obtain ⟨b, rfl⟩ : ∃ b : Nat, a1 = (b : Int) := ⟨a1.toNat, by omega⟩
  have e0 : ∀ a : Fin 256, wrap64 (1 + (wrap64 (Int.tmod (a.val : Int) 8))) = ((1 + a.val % 8 : Nat) : Int) := by decide +kernel
  have e1 : ∀ a : Fin 256, IntKind.u64.wrap (1 + (IntKind.u64.wrap (Int.tmod (a.val : Int) 63))) = ((1 + a.val % 63 : Nat) : Int) := by decide +kernel
  have e0 := e0 ⟨a, by omega⟩
  have e1 := e1 ⟨b, by omega⟩
  simp only at e0 e1
  have hn1 : 1 ≤ 1 + a % 8 := by omega
  have hn2 : 1 + a % 8 ≤ 8 := by omega
  have hm1 : 1 ≤ 1 + b % 63 := by omega
  have hm2 : 1 + b % 63 ≤ 63 := by omega
  refine ⟨300, ?_⟩
  unfold samphirelaw17_SlotsPlaces.f
  rw [e0, e1]
  generalize 1 + a % 8 = n at *
  generalize 1 + b % 63 = w at *
  by_cases hs : (l.length : Int) < (n : Int)
  · rw [if_pos hs]
    show samphirelaw17_SlotsPlaces.j0 (299 + 1) l _ _ _ = _
    rw [samphirelaw17_SlotsPlaces.j0, if_pos rfl]
    exact bnd (awake' (by omega)) rfl
  rw [if_neg hs]
  show samphirelaw17_SlotsPlaces.j0 (299 + 1) l _ _ _ = _
  rw [samphirelaw17_SlotsPlaces.j0]
  by_cases h60 : (l.length : Int) > 60
  · rw [decide_eq_true h60, if_pos rfl]
    exact bnd (awake' (by omega)) rfl
  rw [decide_eq_false h60, if_neg (by simp)]
  refine bnd (new_ n hn1 (by omega)) ?_
  have e2 : IntKind.u64.wrap (64 - (w : Int)) = ((64 - w : Nat) : Int) := by rw [IntKind.wrap_u64]; omega
  rw [e2]
  refine bnd (add_first 299 n hn1 (by omega) O (by decide) (64 - w) (by omega) (by omega) [] 0) ?_
  obtain ⟨R, hR1, hR2, hR3⟩ := add_more 299 n hn1 (by omega) (64 - w) w (by omega) (by omega) (by omega) (List.replicate n O) List.length_replicate (fun x hx => by rw [(List.mem_replicate.1 hx).2]; decide) N (by decide) l 0 (fun j => ((xs.getD j 0 % 64 : Nat) : Int)) (xs.length + 1) (by omega)
    (fun i hi k' hk' => by rw [show 64 - w + w = 64 by omega]; exact below64 hw (by omega) i (by omega) k' hk')
  refine bnd hR1 ?_
  dsimp only
  rw [Nat.zero_add, hR2, if_pos rfl, if_pos rfl, if_pos rfl]
  show samphirelaw17_SlotsPlaces.j1 (298 + 1) l _ _ _ _ _ = _
  rw [samphirelaw17_SlotsPlaces.j1, if_neg (by simp), hR2]
  refine places_loop l xs hw n w (by omega) hn2 R hR2 (fun j hj => ?_) n 0 298 (by omega) (by omega)
  rw [hR3 j]
  have hO : (List.replicate n O).getD j ByteArray.empty = O := by
    rw [List.getD_eq_getElem?_getD, List.getElem?_replicate, if_pos hj]; rfl
  by_cases hc : xs.getD j 0 % 64 < w
  · rw [if_pos hc, if_pos ⟨hj, by omega⟩]
  · rw [if_neg hc, if_neg (by omega), hO]
end Go.Proofs.Ytabfaoghacamlaa.Pure
