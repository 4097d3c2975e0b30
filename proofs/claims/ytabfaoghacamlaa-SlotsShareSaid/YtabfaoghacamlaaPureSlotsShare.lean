/- SlotsShare, over numbers and lists: of all draws below the new Total just those below the weight bring the new key. -/
import Derived.Test.YtabfaoghacamlaaQx7
import Derived.Test.YtabfaoghacamlaaPureA
namespace Go.Proofs.Ytabfaoghacamlaa.Pure
open Go.RowKit Go.Proofs.Ytabfaoghacamlaa.Q Go.Proofs.YtabfaoghacamlaaW.PrintWords Go.Proofs.YtabfaoghacamlaaW.PrintLast Go.Proofs.Ytabfaoghacamlaa.Draw
set_option linter.unusedVariables false
abbrev O : ByteArray := ⟨#[111, 108, 100]⟩
abbrev N : ByteArray := ⟨#[110, 101, 119]⟩
theorem O_no : ¬ O.toList = ([110, 101, 119] : List UInt8) := by decide +kernel
theorem N_yes : N.toList = ([110, 101, 119] : List UInt8) := by decide +kernel
theorem width (D : Nat) (h2 : 2 ≤ D) (hD : D < 121) : Lib.bitLen (D - 1) ≠ 0 ∧ Lib.bitLen (D - 1) ≤ 64 ∧ D ≤ 2 ^ Lib.bitLen (D - 1) := by
  have h : ∀ D : Fin 121, 2 ≤ D.val → Lib.bitLen (D.val - 1) ≠ 0 ∧ Lib.bitLen (D.val - 1) ≤ 64 ∧ D.val ≤ 2 ^ Lib.bitLen (D.val - 1) := by decide +kernel
  exact h ⟨D, hD⟩ h2
theorem below1 (D d : Nat) (h2 : 2 ≤ D) (hD : D < 121) (hd : d < D) (k : Nat) (hk : 2 ≤ k) : draw_Below.f k [(d : Int)] ((0 + 0 : Nat) : Int) ((D : Nat) : Int) = some ((d : Int), [(d : Int)], ((0 + (0 + 1) : Nat) : Int), 0) := by
  obtain ⟨w0, w1, w2⟩ := width D h2 hD
  have hw : Words [(d : Int)] [d] := ⟨rfl, fun x hx => by rw [List.mem_singleton.1 hx]; omega⟩
  have := below D _ (by omega) (by omega) rfl w1 hw 0 (Nat.zero_le _) (by simp) k (by simp; omega)
  rw [if_neg w0, List.drop_zero, pick, Nat.mod_eq_of_lt (by omega), if_pos hd] at this
  exact this
theorem add_ (a b d k : Nat) (ha : 1 ≤ a) (ha2 : a ≤ 60) (hb : 1 ≤ b) (hb2 : b ≤ 60) (hd : d < a + b) (hk : 10 < k) :
    slots_Add.f k 1 (a : Int) [O] N (b : Int) [(d : Int)] 0 = some (1, ((a + b : Nat) : Int), [if d < b then N else O], [(d : Int)], 1, 0) := by
  obtain ⟨R, h1, h2, h3⟩ := add_more k 1 (by omega) (by omega) a b (by omega) (by omega) (by omega) [O] rfl (fun x hx => by rw [List.mem_singleton.1 hx]; decide) N (by decide) [(d : Int)] 0 (fun _ => (d : Int)) 2 (by omega)
    (fun i hi k' hk' => by obtain rfl : i = 0 := by omega
                           exact below1 (a + b) d (by omega) (by omega) hd k' hk')
  have h3 := h3 0
  obtain ⟨r, rfl⟩ : ∃ r, R = [r] := List.length_eq_one_iff.1 h2
  rw [show ([r] : List ByteArray).getD 0 ByteArray.empty = r from rfl, show ([O] : List ByteArray).getD 0 ByteArray.empty = O from rfl] at h3
  have : r = if d < b then N else O := by
    rw [h3]; by_cases hc : d < b
    · rw [if_pos hc, if_pos (by omega)]
    · rw [if_neg hc, if_neg (by omega)]
  rw [this] at h1
  exact h1
theorem merge_ (a b d k : Nat) (ha : 1 ≤ a) (ha2 : a ≤ 60) (hb : 1 ≤ b) (hb2 : b ≤ 60) (hd : d < a + b) (hk : 10 < k) :
    slots_Merge.f k 1 (b : Int) [N] 1 (a : Int) [O] [(d : Int)] 0 = some (1, ((a + b : Nat) : Int), [if d < b then N else O], [(d : Int)], 1, 0) := by
  have e : IntKind.u64.wrap ((a : Int) + (b : Int)) = ((a + b : Nat) : Int) := by rw [← Int.natCast_add]; exact wrap_u _ (by omega)
  obtain ⟨R, h1, h2, h3⟩ := choose_loop N (a : Int) (b : Int) [(d : Int)] [(d : Int)] 0 0 1 (by omega) (fun _ => (d : Int)) 2 (by
    rw [e]; intro i hi k' hk'
    obtain rfl : i = 0 := by omega
    exact below1 (a + b) d (by omega) (by omega) hd k' hk') 1 0 (k - 1) [O] rfl (by omega) rfl
  have h3 := h3 0
  obtain ⟨r, rfl⟩ : ∃ r, R = [r] := List.length_eq_one_iff.1 h2
  rw [show ([r] : List ByteArray).getD 0 ByteArray.empty = r from rfl, show ([O] : List ByteArray).getD 0 ByteArray.empty = O from rfl] at h3
  have hr : r = if d < b then N else O := by
    rw [h3]; by_cases hc : d < b
    · rw [if_pos hc, if_pos (by omega)]
    · rw [if_neg hc, if_neg (by omega)]
  rw [hr] at h1
  obtain ⟨k, rfl⟩ : ∃ j, k = j + 1 := ⟨k - 1, by omega⟩
  unfold slots_Merge.f
  refine bnd (right1 1 b (by omega) [N] rfl (fun x hx => by rw [List.mem_singleton.1 hx]; decide) (by omega) (by omega)) ?_
  refine ift rfl (bnd (right1 1 a (by omega) [O] rfl (fun x hx => by rw [List.mem_singleton.1 hx]; decide) (by omega) (by omega)) ?_)
  rw [slots_Merge.j0]
  have e2 : IntKind.u64.wrap ((b : Int) + (a : Int)) = ((a + b : Nat) : Int) := by rw [Int.add_comm]; exact e
  rw [e2]
  refine iff_ (by simp) (ift rfl (iff_ (by omega) (iff_ (by omega) (iff_ (by omega) ?_))))
  refine bnd (x := ([if d < b then N else O], [(d : Int)], 1, 0)) ?_ ?_
  · unfold slots_choose.f
    refine bnd (x := [O]) (by unfold clone_.f; rw [if_pos (by decide)]) ?_
    exact h1
  · dsimp only
    rw [if_pos rfl]
theorem share_loop (a b : Nat) (ha : 1 ≤ a) (ha2 : a ≤ 60) (hb : 1 ≤ b) (hb2 : b ≤ 60) (m : Nat) : ∀ (d k : Nat), d + m = a + b → 2 * m + 60 < k →
    samphirelaw17_SlotsShare.l0 k (a : Int) (b : Int) 0 0 ((min d b : Nat) : Int) ((min d b : Nat) : Int) ((a + b : Nat) : Int) (d : Int) 1 (a : Int) [O] 1 (b : Int) [N] = some true := by
  induction m with
  | zero =>
    intro d k hi hk
    obtain ⟨k, rfl⟩ : ∃ j, k = j + 1 := ⟨k - 1, by omega⟩
    rw [samphirelaw17_SlotsShare.l0]
    refine iff_ (by omega) (ift rfl (ift rfl (ift (by omega) (ift (by omega) ?_))))
    exact bnd (awake' (by omega)) rfl
  | succ m ih =>
    intro d k hi hk
    obtain ⟨k, rfl⟩ : ∃ j, k = j + 2 := ⟨k - 2, by omega⟩
    have e : IntKind.u64.wrap ((a : Int) + (b : Int)) = ((a + b : Nat) : Int) := by rw [← Int.natCast_add]; exact wrap_u _ (by omega)
    show samphirelaw17_SlotsShare.l0 ((k + 1) + 1) _ _ _ _ _ _ _ _ _ _ _ _ _ _ = _
    rw [samphirelaw17_SlotsShare.l0]
    refine ift (by omega) (bnd rfl ?_)
    refine bnd (add_ a b d (k + 1) ha ha2 hb hb2 (by omega) (by omega)) (bnd (merge_ a b d (k + 1) ha ha2 hb hb2 (by omega) (by omega)) ?_)
    dsimp only
    rw [e]
    refine ift rfl (ift rfl (ift rfl (ift rfl (ift rfl (ift rfl (ift rfl ?_))))))
    rw [samphirelaw17_SlotsShare.j1]
    refine iff_ (by simp) (ift (by simp) ?_)
    have hr : rdOf ByteArray.empty [if d < b then N else O] 0 = if d < b then N else O := rfl
    rw [hr]
    have ed : IntKind.u64.wrap ((d : Int) + 1) = ((d + 1 : Nat) : Int) := by rw [IntKind.wrap_u64]; omega
    rw [ed]
    have ih := ih (d + 1) k (by omega) (by omega)
    by_cases hc : d < b
    · rw [if_pos hc]
      refine ift N_yes (ift (by simp) (ift N_yes ?_))
      have em : IntKind.u64.wrap (((min d b : Nat) : Int) + 1) = ((min (d + 1) b : Nat) : Int) := by rw [IntKind.wrap_u64]; omega
      rw [em]; exact ih
    · rw [if_neg hc]
      refine iff_ O_no (ift (by simp) (iff_ O_no ?_))
      have em : min (d + 1) b = min d b := by omega
      rw [em] at ih; exact ih
theorem SlotsShare : samphirelaw17_SlotsShare.Pure := by
  intro a0 a1 hw0 hw1
  have h0 : 0 ≤ a0 ∧ a0 < 256 := by simp [Lit.wf, IntKind.min, IntKind.max, IntKind.signed, IntKind.bits] at hw0; omega
  have h1 : 0 ≤ a1 ∧ a1 < 256 := by simp [Lit.wf, IntKind.min, IntKind.max, IntKind.signed, IntKind.bits] at hw1; omega
  obtain ⟨a, rfl⟩ : ∃ a : Nat, a0 = (a : Int) := ⟨a0.toNat, by omega⟩
  obtain ⟨b, rfl⟩ : ∃ b : Nat, a1 = (b : Int) := ⟨a1.toNat, by omega⟩
  have e1 : ∀ a : Fin 256, IntKind.u64.wrap (1 + (IntKind.u64.wrap (Int.tmod (a.val : Int) 60))) = ((1 + a.val % 60 : Nat) : Int) := by decide +kernel
  have e0 := e1 ⟨a, by omega⟩
  have e1 := e1 ⟨b, by omega⟩
  simp only at e0 e1
  refine ⟨400, ?_⟩
  unfold samphirelaw17_SlotsShare.f
  rw [e0, e1]
  have ha1 : 1 ≤ 1 + a % 60 := by omega
  have ha2 : 1 + a % 60 ≤ 60 := by omega
  have hb1 : 1 ≤ 1 + b % 60 := by omega
  have hb2 : 1 + b % 60 ≤ 60 := by omega
  generalize 1 + a % 60 = a at *
  generalize 1 + b % 60 = b at *
  have e : IntKind.u64.wrap ((a : Int) + (b : Int)) = ((a + b : Nat) : Int) := by rw [← Int.natCast_add]; exact wrap_u _ (by omega)
  rw [e]
  refine bnd (new_ 1 (by omega) (by omega)) (bnd (new_ 1 (by omega) (by omega)) ?_)
  refine bnd (add_first 400 1 (by omega) (by omega) O (by decide) a (by omega) (by omega) [] 0) ?_
  refine bnd (add_first 400 1 (by omega) (by omega) N (by decide) b (by omega) (by omega) [] 0) ?_
  have := share_loop a b ha1 ha2 hb1 hb2 (a + b) 0 400 (by omega) (by omega)
  rw [show min 0 b = 0 by omega] at this
  exact this
end Go.Proofs.Ytabfaoghacamlaa.Pure
