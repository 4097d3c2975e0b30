/- ReserveHolds over plain lists: the law's states, key by key; and the law's walk. -/
import Derived.Test.YthgacimoifbhiaaPureReserveHolds
namespace Go.Proofs.Ythgacimoifbhiaa.Pure
open Go.RowKit Go.Proofs.Ythgacimoifbhiaa.Q Go.Proofs.YthgacimoifbhiaaW.PrintWords Go.Proofs.YthgacimoifbhiaaW.PrintLast Go.Proofs.Ythgacimoifbhiaa.Draw
set_option linter.unusedVariables false
/-- The state behind one more key; none where the law ends. -/
def nxt (n : Int) (q : Nat) (LM : List ByteArray) (l : List Int) (j : Nat) (t : Stt) : Option Stt :=
  if (LM.getD j ByteArray.empty).size ≤ 64 then
    match reserve_Add.f 2000 n (t.sel (decide ((q : Int) ≤ j))).1 (t.sel (decide ((q : Int) ≤ j))).2 (LM.getD j ByteArray.empty) l t.p with
    | some (_, N, X, _, p, e) => if e = 0 then some (t.upd (decide ((q : Int) ≤ j)) N X p) else none
    | none => none
  else none
def sta (n : Int) (q : Nat) (LM : List ByteArray) (l : List Int) : Nat → Stt
  | 0 => ⟨0, [], 0, [], 0⟩
  | j + 1 => (nxt n q LM l j (sta n q LM l j)).getD (sta n q LM l j)
/-- What holds of the state behind j keys. -/
structure Iv (n : Nat) (LM : List ByteArray) (l : List Int) (j : Nat) (t : Stt) : Prop where
  e : ∃ (na nb p : Nat) (aA aB : List ByteArray), t.na = (na : Int) ∧ t.nb = (nb : Int) ∧ t.p = (p : Int) ∧ p ≤ l.length ∧ na + nb = j ∧ Sm n na t.la aA ∧ Sm n nb t.lb aB ∧ ∀ f : ByteArray → Bool, aA.countP f + aB.countP f = (LM.take j).countP f
theorem Iv.next {n : Nat} {LM : List ByteArray} {l : List Int} {xs : List Nat} (hw : Words l xs) (hl : l.length ≤ 200) (h1 : 1 ≤ n) (h2 : n ≤ 10) {j q : Nat} (hj : j < LM.length) (hLM : LM.length ≤ 60) {t : Stt} (h : Iv n LM l j t) (hs : (LM.getD j ByteArray.empty).size ≤ 64) :
    reserve_Add.f 2000 (n : Int) (t.sel (decide ((q : Int) ≤ j))).1 (t.sel (decide ((q : Int) ≤ j))).2 (LM.getD j ByteArray.empty) l t.p = some ((n : Int), (t.sel (decide ((q : Int) ≤ j))).1, (t.sel (decide ((q : Int) ≤ j))).2, l, t.p, 8) ∨
    ∃ N X p, reserve_Add.f 2000 (n : Int) (t.sel (decide ((q : Int) ≤ j))).1 (t.sel (decide ((q : Int) ≤ j))).2 (LM.getD j ByteArray.empty) l t.p = some ((n : Int), N, X, l, p, 0) ∧ Iv n LM l (j + 1) (t.upd (decide ((q : Int) ≤ j)) N X p) := by
  obtain ⟨na, nb, p, aA, aB, e1, e2, e3, hp, hs2, sA, sB, hc⟩ := h.e
  have hn := take_next LM j hj
  have hc2 : ∀ f : ByteArray → Bool, (LM.take (j + 1)).countP f = (LM.take j).countP f + [LM.getD j ByteArray.empty].countP f := fun f => by rw [← hn, List.countP_append]
  generalize LM.getD j ByteArray.empty = x at *
  cases decide ((q : Int) ≤ j) with
  | true =>
    show reserve_Add.f 2000 (n : Int) t.nb t.lb x l t.p = some ((n : Int), t.nb, t.lb, l, t.p, 8) ∨ ∃ N X p, reserve_Add.f 2000 (n : Int) t.nb t.lb x l t.p = some ((n : Int), N, X, l, p, 0) ∧ Iv n LM l (j + 1) (t.upd true N X p)
    rw [e2, e3]
    rcases sB.add h1 h2 (by omega) hs hw hl p hp with g | ⟨X, b, g, gb, gs⟩
    · exact .inl g
    · exact .inr ⟨_, X, _, g, ⟨na, nb + 1, b, aA, aB ++ [x], e1, rfl, rfl, gb, by omega, sA, gs, fun f => by rw [List.countP_append, hc2, ← hc f]; omega⟩⟩
  | false =>
    show reserve_Add.f 2000 (n : Int) t.na t.la x l t.p = some ((n : Int), t.na, t.la, l, t.p, 8) ∨ ∃ N X p, reserve_Add.f 2000 (n : Int) t.na t.la x l t.p = some ((n : Int), N, X, l, p, 0) ∧ Iv n LM l (j + 1) (t.upd false N X p)
    rw [e1, e3]
    rcases sA.add h1 h2 (by omega) hs hw hl p hp with g | ⟨X, b, g, gb, gs⟩
    · exact .inl g
    · exact .inr ⟨_, X, _, g, ⟨na + 1, nb, b, aA ++ [x], aB, rfl, e2, rfl, gb, by omega, gs, sB, fun f => by rw [List.countP_append, hc2, ← hc f]; omega⟩⟩
/-- A key that came in. -/
def Goes (n : Int) (q : Nat) (LM : List ByteArray) (l : List Int) (j : Nat) : Prop :=
  (LM.getD j ByteArray.empty).size ≤ 64 ∧ ∃ N X p, reserve_Add.f 2000 n ((sta n q LM l j).sel (decide ((q : Int) ≤ j))).1 ((sta n q LM l j).sel (decide ((q : Int) ≤ j))).2 (LM.getD j ByteArray.empty) l (sta n q LM l j).p = some (n, N, X, l, p, 0) ∧ sta n q LM l (j + 1) = (sta n q LM l j).upd (decide ((q : Int) ≤ j)) N X p
theorem run_ex {n : Nat} {LM : List ByteArray} {l : List Int} {xs : List Nat} (hw : Words l xs) (hl : l.length ≤ 200) (h1 : 1 ≤ n) (h2 : n ≤ 10) (q : Nat) (hLM : LM.length ≤ 60) (m : Nat) : ∀ j, j + m = LM.length → Iv n LM l j (sta n q LM l j) → (∀ i, i < j → Goes n q LM l i) →
    ∃ stop, stop ≤ LM.length ∧ (∀ i, i < stop → Goes n q LM l i) ∧ Iv n LM l stop (sta n q LM l stop) ∧ (stop < LM.length → 64 < (LM.getD stop ByteArray.empty).size ∨ ((LM.getD stop ByteArray.empty).size ≤ 64 ∧
      reserve_Add.f 2000 (n : Int) ((sta n q LM l stop).sel (decide ((q : Int) ≤ stop))).1 ((sta n q LM l stop).sel (decide ((q : Int) ≤ stop))).2 (LM.getD stop ByteArray.empty) l (sta n q LM l stop).p = some ((n : Int), ((sta n q LM l stop).sel (decide ((q : Int) ≤ stop))).1, ((sta n q LM l stop).sel (decide ((q : Int) ≤ stop))).2, l, (sta n q LM l stop).p, 8))) := by
  induction m with
  | zero =>
    intro j hj hI hg
    exact ⟨j, by omega, hg, hI, fun h => by omega⟩
  | succ m ih =>
    intro j hj hI hg
    by_cases hs : (LM.getD j ByteArray.empty).size ≤ 64
    · rcases Iv.next (q := q) hw hl h1 h2 (show j < LM.length by omega) hLM hI hs with g | ⟨N, X, p, g, gI⟩
      · exact ⟨j, by omega, hg, hI, fun _ => .inr ⟨hs, g⟩⟩
      · have e : sta n q LM l (j + 1) = (sta n q LM l j).upd (decide ((q : Int) ≤ j)) N X p := by
          show (nxt n q LM l j (sta n q LM l j)).getD (sta n q LM l j) = _
          have e2 : nxt n q LM l j (sta n q LM l j) = some ((sta n q LM l j).upd (decide ((q : Int) ≤ j)) N X p) := by
            unfold nxt
            rw [if_pos hs, g]
            exact if_pos rfl
          rw [e2]
          rfl
        refine ih (j + 1) (by omega) (by rw [e]; exact gI) ?_
        intro i hi
        by_cases hij : i < j
        · exact hg i hij
        · obtain rfl : i = j := by omega
          exact ⟨hs, N, X, p, g, e⟩
    · exact ⟨j, by omega, hg, hI, fun _ => .inl (by omega)⟩
theorem strings_self_loop (l : List ByteArray) (hl : l.length ≤ 1000) (m : Nat) : ∀ (i k : Nat), i + m = l.length → m < k → samphireref16_Strings.l0 k l l (i : Int) = some true := by
  induction m with
  | zero =>
    intro i k hi hk
    obtain ⟨k, rfl⟩ : ∃ j, k = j + 1 := ⟨k - 1, by omega⟩
    simp only [samphireref16_Strings.l0]
    rw [if_neg (by omega)]
  | succ m ih =>
    intro i k hi hk
    obtain ⟨k, rfl⟩ : ∃ j, k = j + 1 := ⟨k - 1, by omega⟩
    simp only [samphireref16_Strings.l0]
    rw [if_pos (by omega), if_pos (by omega), if_pos (by omega), if_pos trivial]
    rw [show wrap64 ((i : Int) + 1) = ((i + 1 : Nat) : Int) by unfold wrap64; omega]
    exact ih (i + 1) k (by omega) (by omega)
theorem strings_self (l : List ByteArray) (hl : l.length ≤ 1000) : samphireref16_Strings.f 2000 l l = some true := by
  unfold samphireref16_Strings.f
  rw [if_pos rfl]
  exact strings_self_loop l hl l.length 0 2000 (by omega) (by omega)
theorem Sm.good {n N : Nat} {X all LM : List ByteArray} (h : Sm n N X all) (h1 : 1 ≤ n) (h2 : n ≤ 10) (hN : N ≤ 1000) (hLM : LM.length ≤ 60) (hs : ∀ f : ByteArray → Bool, all.countP f ≤ LM.countP f) : Good 2000 (n : Int) LM (n : Int) (N : Int) X := by
  have hl := h.len
  refine ⟨h.right h1 (by omega) hN, by rw [wrap64_nat N (by omega)]; omega, ?_⟩
  intro x _
  refine ⟨_, _, count_eq X x (by omega) 2000 (by omega), count_eq LM x (by omega) 2000 (by omega), ?_⟩
  have g1 := h.sub fun y => decide (y.toList = x.toList)
  have g2 := hs fun y => decide (y.toList = x.toList)
  unfold cnt
  omega
theorem tmod10 : ∀ k : Fin 256, wrap64 (1 + wrap64 (((k.val : Nat) : Int).tmod 10)) = ((1 + k.val % 10 : Nat) : Int) := by decide +kernel
theorem new_eq (n : Nat) (h1 : 1 ≤ n) (h2 : n ≤ 10) : reserve_New.f (n : Int) = some ((n : Int), 0, [], 0) := by
  unfold reserve_New.f
  exact iff_ (by omega) (iff_ (by omega) rfl)
set_option maxHeartbeats 2000000 in
theorem reserveHolds_walk (k : Int) (AL : Option Addr) (cL : Nat) (L : List ByteArray) (AM : Option Addr) (cM : Nat) (M : List ByteArray) (A : Option Addr) (c : Nat) (l : List Int) (w : World)
    (wk : (Lit.int .u8 k).wf = true) (hL : Kd.C Kd.string w AL L.length L) (hcL : L.length ≤ cL) (hM : Kd.C Kd.string w AM M.length M) (hcM : M.length ≤ cM) (hA : Kd.C (Kd.int .u64) w A l.length l) (hcA : l.length ≤ c) (hw : ∀ x ∈ l, (Lit.int .u64 x).wf = true) :
    Calls Try.prog 6 #[.int .u8 k, .slice AL L.length cL, .slice AM M.length cM, .slice A l.length c] w fun e w' => e = .returned (.bool true) ∧ Below w.heap.size w w' := by
  have hk : 0 ≤ k ∧ k < 256 := by
    simp [Lit.wf, IntKind.min, IntKind.max, IntKind.signed, IntKind.bits] at wk
    omega
  have haw := awake' (k := 2000) (by omega)
  obtain ⟨b1, s1, t1⟩ := small_eq L 2000 (by omega)
  obtain ⟨b2, s2, t2⟩ := small_eq M 2000 (by omega)
  cases b1 with
  | false => exact holds_out 2000 k AL cL L AM cM M A c l w hL hcL hM hcM haw (.inl s1)
  | true =>
  cases b2 with
  | false => exact holds_out 2000 k AL cL L AM cM M A c l w hL hcL hM hcM haw (.inr ⟨s1, .inl s2⟩)
  | true =>
  by_cases h3 : 30 < L.length
  · exact holds_out 2000 k AL cL L AM cM M A c l w hL hcL hM hcM haw (.inr ⟨s1, .inr ⟨s2, .inl h3⟩⟩)
  by_cases h4 : 30 < M.length
  · exact holds_out 2000 k AL cL L AM cM M A c l w hL hcL hM hcM haw (.inr ⟨s1, .inr ⟨s2, .inr ⟨by omega, .inl h4⟩⟩⟩)
  by_cases h5 : 200 < l.length
  · exact holds_out 2000 k AL cL L AM cM M A c l w hL hcL hM hcM haw (.inr ⟨s1, .inr ⟨s2, .inr ⟨by omega, .inr ⟨by omega, h5⟩⟩⟩⟩)
  obtain ⟨n, hn⟩ : ∃ n : Nat, n = 1 + k.toNat % 10 := ⟨_, rfl⟩
  have hn2 : wrap64 (1 + wrap64 (k.tmod 10)) = (n : Int) := by
    have := tmod10 ⟨k.toNat, by omega⟩
    rw [show ((k.toNat : Nat) : Int) = k from Int.toNat_of_nonneg hk.1] at this
    rw [this, hn]
  have hn3 : 1 ≤ n ∧ n ≤ 10 := by omega
  have hnew := new_eq n hn3.1 hn3.2
  clear hn
  obtain ⟨xs, hxs⟩ := words_of l hw
  have hLM : (L ++ M).length ≤ 60 := by rw [List.length_append]; omega
  have I0 : Iv n (L ++ M) l 0 (sta n L.length (L ++ M) l 0) := ⟨0, 0, 0, [], [], rfl, rfl, rfl, Nat.zero_le _, rfl, ⟨by simp [sta], fun p => Nat.zero_le _, fun x hx => by cases hx⟩, ⟨by simp [sta], fun p => Nat.zero_le _, fun x hx => by cases hx⟩, fun f => by simp⟩
  obtain ⟨stop, hst, hgo, hI, hdry⟩ := run_ex hxs (by omega) (show 1 ≤ n by omega) (by omega) L.length hLM (L ++ M).length 0 (by omega) I0 (fun i hi => by omega)
  obtain ⟨na, nb, p, aA, aB, e1, e2, e3, hp, hs2, sA, sB, hc⟩ := hI.e
  refine holds_in 2000 k n AL cL L AM cM M A c l w hL hcL hM hcM hA hcA haw s1 s2 (by omega) (by omega) (by omega) hn2 hnew (sta n L.length (L ++ M) l) stop hst rfl hgo ?_ ?_
  · intro hlt
    rcases hdry hlt with g | ⟨g1, g2⟩
    · exact .inl g
    · refine .inr ⟨g1, strings_self _ ?_, g2⟩
      have l1 := sA.len
      have l2 := sB.len
      cases decide ((L.length : Int) ≤ stop)
      · show (sta n L.length (L ++ M) l stop).la.length ≤ 1000
        omega
      · show (sta n L.length (L ++ M) l stop).lb.length ≤ 1000
        omega
  · intro hend
    rw [hend, List.take_length] at hc
    rw [hend] at hs2
    generalize sta n L.length (L ++ M) l stop = t at *
    generalize L ++ M = LM at *
    have l1 := sA.len
    have l2 := sB.len
    have ew : IntKind.u64.wrap ((na : Int) + (nb : Int)) = ((na + nb : Nat) : Int) := by rw [wrapE]; omega
    have em : (min (n : Int) (IntKind.u64.wrap ((na : Int) + (nb : Int)))).toNat = min n (na + nb) := by rw [ew]; omega
    have hf : ∀ r, rounds (l.length + 5) l (min n (na + nb)) (na : Int) t.la (nb : Int) t.lb (p : Int) [] = some r → reserve_Merge.f (n : Int) (na : Int) t.la (n : Int) (nb : Int) t.lb l (p : Int) = (match r with | some (items, a) => some ((n : Int), IntKind.u64.wrap ((na : Int) + (nb : Int)), items, l, a, 0) | none => some (0, 0, [], l, (p : Int), 8)) := by
      intro r hr
      unfold reserve_Merge.f
      refine bnd (sA.right (by omega) (by omega) (by omega)) (bnd (sB.right (by omega) (by omega) (by omega)) (ift ⟨rfl, rfl, rfl, by rw [ew]; omega⟩ ?_))
      rw [em]
      exact bnd hr rfl
    rw [e1, e2, e3]
    rcases rounds_ab hxs (by omega) (min n (na + nb)) na nb p t.la t.lb [] (by omega) (by omega) (by omega) (by omega) (by omega) (by omega) hp with g | ⟨r, b, g, g1, g2, g3⟩
    · exact ⟨_, _, _, _, _, _, hf _ g, .inl ⟨rfl, rfl, rfl⟩⟩
    · refine ⟨_, _, _, _, _, _, hf _ g, .inr ⟨rfl, by rw [← hs2]; rfl, sA.good (by omega) (by omega) (by omega) hLM (fun f => by rw [← hc f]; omega), sB.good (by omega) (by omega) (by omega) hLM (fun f => by rw [← hc f]; omega), ?_⟩⟩
      rw [ew, List.nil_append]
      refine Sm.good (all := aA ++ aB) ⟨g1, fun f => ?_, fun x hx => ?_⟩ (by omega) (by omega) (by omega) hLM (fun f => by rw [List.countP_append, ← hc f]; exact Nat.le_refl _)
      · have q1 := sA.sub f
        have q2 := sB.sub f
        have q3 := g2 f
        rw [List.countP_append]
        omega
      · rcases g3 x hx with e | e
        · exact sA.key x e
        · exact sB.key x e
end Go.Proofs.Ythgacimoifbhiaa.Pure
