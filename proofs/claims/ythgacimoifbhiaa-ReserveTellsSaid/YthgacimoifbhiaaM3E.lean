import Derived.Test.YthgacimoifbhiaaMergeE
namespace Go.Proofs.Ythgacimoifbhiaa.Q
open Go.RowKit Go.Proofs.Ythgacimoifbhiaa Go.Proofs.YthgacimoifbhiaaW.PrintWords Go.Proofs.YthgacimoifbhiaaW.PrintLast Go.Proofs.YthgacimoifbhiaaW.PrintMore
set_option linter.unusedVariables false
theorem right_facts {K N : Int} {l : List ByteArray} (h : reserve_Right.f K N l = some true) : 1 ≤ K ∧ K ≤ 1024 ∧ 0 ≤ N ∧ N ≤ 4611686018427387904 ∧ l.length ≤ 1024 ∧ (l.length : Int) = mn K N := by
 unfold reserve_Right.f at h
 split at h
 ·
  rename_i h0
  have h1 := Option.some.inj h
  unfold rightB at h1
  rw [Bool.and_eq_true] at h1
  have h2 := of_decide_eq_true h1.1
  refine ⟨h2.1, h2.2.1, h0.1, h2.2.2.1, ?_, h2.2.2.2⟩
  have h3 := h2.2.2.2
  unfold mn at h3
  split at h3 <;> omega
 ·
  cases h
theorem reserve_Merge.calls (er : Int) (her : (er != 0) = true) (he7 : er ≠ 7) (a0_0 a0_1 : Int) (A0_2 : Option Addr) (c0_2 : Nat) (l0_2 : List ByteArray) (a1_0 a1_1 : Int) (A1_2 : Option Addr) (c1_2 : Nat) (l1_2 : List ByteArray) (P2_0_ : Nat → Prop) (A2_0 : Option Addr) (c2_0 : Nat) (l2_0 : List Int) (a2_1 : Int)
  (r1 r2 : Int) (r3 : List ByteArray) (r4 : List Int) (r5 r6 : Int) (w : World) (hr0 : Kd.C Kd.string w A0_2 l0_2.length l0_2) (hc0 : l0_2.length ≤ c0_2) (hr1 : Kd.C Kd.string w A1_2 l1_2.length l1_2) (hc1 : l1_2.length ≤ c1_2)
  (hs2_0 : Kd.V (Kd.int .u64) 23 w w.heap.size (fun k_ => P2_0_ k_) (.slice A2_0 l2_0.length c2_0) l2_0) (h : reserve_Merge.f er a0_0 a0_1 l0_2 a1_0 a1_1 l1_2 l2_0 a2_1 = some (r1, r2, r3, r4, r5, r6)) :
  Calls Try.prog 19 #[.agg #[.int .i64 a0_0, .int .u64 a0_1, .slice A0_2 l0_2.length c0_2], .agg #[.int .i64 a1_0, .int .u64 a1_1, .slice A1_2 l1_2.length c1_2], .agg #[.slice A2_0 l2_0.length c2_0, .int .i64 a2_1]] w fun e w' =>
   ∃ v2_ v3_ : Value, e = .returned (.tuple #[.agg #[.int .i64 r1, .int .u64 r2, v2_], .agg #[v3_, .int .i64 r5], .int .i64 r6]) ∧ Kd.R Kd.string 9 w' w.heap.size (fun _ => True) v2_ r3 ∧
    Kd.V (Kd.int .u64) 23 w' w.heap.size (fun k_ => (P2_0_ k_ ∨ w.heap.size ≤ k_) ∧ some k_ ≠ v2_.ownBlock) v3_ r4 ∧ Below w.heap.size w w' := by
 unfold reserve_Merge.f at h
 obtain ⟨p, e1, h'⟩ := Option.bind_eq_some_iff.1 h
 clear h
 obtain ⟨q, e2, h⟩ := Option.bind_eq_some_iff.1 h'
 clear h'
 by_cases hc : p = true ∧ q = true ∧ a0_0 = a1_0 ∧ IntKind.u64.wrap (a0_1 + a1_1) ≤ 4611686018427387904
 ·
  rw [if_pos hc] at h
  obtain ⟨rfl, rfl, rfl, hw⟩ := hc
  obtain ⟨t, e3, h'⟩ := Option.bind_eq_some_iff.1 h
  clear h
  have h := h'
  clear h'
  obtain ⟨k1, k2, n0, _, x1, _⟩ := right_facts e1
  obtain ⟨_, _, m0, _, y1, _⟩ := right_facts e2
  have cx : clone_.f l0_2 = some l0_2 := by unfold clone_.f; rw [if_pos (by omega)]
  have cy : clone_.f l1_2 = some l1_2 := by unfold clone_.f; rw [if_pos (by omega)]
  refine (merge_walk her he7 a0_0 a0_1 a1_1 A0_2 c0_2 l0_2 A1_2 c1_2 l1_2 A2_0 c2_0 l2_0 a2_1 (fun k => P2_0_ k ∧ k < w.heap.size) w hr0 hc0 hr1 hc1 e1 e2 hw cx cy (Kd.V_bound hs2_0) (fun k hk => hk.2) k1 k2 n0 m0 x1 y1 (l2_0.length + 5) t e3).mono ?_
  intro e w' hp
  rcases t with _ | ⟨items, b⟩
  ·
   simp only [Option.some.injEq, Prod.mk.injEq] at h
   obtain ⟨rfl, rfl, rfl, rfl, rfl, rfl⟩ := h
   obtain ⟨rfl, hb⟩ := hp
   exact ⟨_, _, rfl, Kd.R_nil _ _ _ _ _, Kd.V_mono (Kd.V_below hs2_0 hb) (fun k hk => ⟨.inl hk, by simp [Value.ownBlock]⟩), hb⟩
  ·
   simp only [Option.some.injEq, Prod.mk.injEq] at h
   obtain ⟨rfl, rfl, rfl, rfl, rfl, rfl⟩ := h
   obtain ⟨v2, v3, rfl, hR, hV, hb⟩ := hp
   exact ⟨v2, v3, rfl, hR, Kd.V_mono hV (fun k hk => ⟨hk.1.imp (fun h => h.1) id, hk.2⟩), hb⟩
 ·
  rw [if_neg hc] at h
  cases h
end Go.Proofs.Ythgacimoifbhiaa.Q
