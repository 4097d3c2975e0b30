import Derived.Test.YthgacimoifbhiaaPureTellsC
namespace Go.Proofs.Ythgacimoifbhiaa.Pure
open Go.RowKit Go.Proofs.Ythgacimoifbhiaa Go.Proofs.Ythgacimoifbhiaa.Q Go.Proofs.Ythgacimoifbhiaa.DrawP Go.Proofs.YthgacimoifbhiaaW.PrintWords Go.Proofs.YthgacimoifbhiaaW.PrintLast
set_option linter.unusedVariables false
set_option linter.unusedSimpArgs false
theorem rounds_any {l : List Int} {xs : List Nat} (h : Words l xs) (hl : l.length ≤ 60) (m nx ny : Nat) (a : Int) (X Y : List ByteArray) (hm : m ≤ nx + ny) (hX : min m nx ≤ X.length) (hY : min m ny ≤ Y.length) (lX : X.length ≤ 1024) (lY : Y.length ≤ 1024) (hn : nx + ny ≤ 4611686018427387904) :
  ∃ er r, (er != (0 : Int)) = true ∧ er ≠ 7 ∧ rounds er (l.length + 5) l m (nx : Int) X (ny : Int) Y a [] = some r ∧ ∀ items b, r = some (items, b) → items.length = m := by
 by_cases ha : 0 ≤ a ∧ a ≤ (l.length : Int)
 ·
  obtain ⟨k, rfl⟩ : ∃ k : Nat, a = k := ⟨a.toNat, by omega⟩
  rcases rounds_ex h hl m nx ny k X Y [] hm hX hY lX lY hn (by omega) with g | ⟨r, b, g, g1⟩
  ·
   exact ⟨8, none, by decide, by decide, g, fun _ _ e => by cases e⟩
  ·
   refine ⟨8, _, by decide, by decide, g, fun items b' e => ?_⟩
   cases e
   rw [g1]; simp
 ·
  cases m with
  | zero => exact ⟨1, some ([], a), by decide, by decide, rfl, fun _ _ e => by cases e; rfl⟩
  | succ m =>
   refine ⟨1, none, by decide, by decide, rounds_no (t := (true, 0, a, false)) ?_ rfl, fun _ _ e => by cases e⟩
   unfold picked
   have e1 : IntKind.u64.wrap ((nx : Int) + (ny : Int)) = ((nx + ny : Nat) : Int) := by rw [wrapE]; omega
   rw [e1]
   refine bnd (x := none) ?_ rfl
   unfold drawn
   refine bnd (x := (0, l, a, 1)) ?_ (ift rfl (iff_ (show ¬ (1 : Int) = 0 by decide) (ift rfl rfl)))
   unfold draw_Below.f
   exact iff_ (by omega) (bnd (right_no l a ha) (iff_ (by decide) rfl))
def Both (kf : Nat) (K N : Int) (A0 : Option Addr) (c0 : Nat) (X : List ByteArray) (K2 M : Int) (A1 : Option Addr) (c1 : Nat) (Y : List ByteArray) (A : Option Addr) (c : Nat) (l : List Int) (a : Int) (w : World) (m1 m2 : Int) (m3 : List ByteArray) (m5 m6 : Int) : Prop :=
 m3.length ≤ 1000 ∧ ∀ w1, Below w.heap.size w w1 → Calls Try.prog 19 (mergeArgs K N A0 c0 X K2 M A1 c1 Y A c l a) w1 (CP w1 m1 m2 m3 m5 m6) ∧ Calls Try.prog 20 (mergeArgs K N A0 c0 X K2 M A1 c1 Y A c l a) w1 (CP w1 m1 m2 m3 m5 m6)
theorem merge_two (kf : Nat) (hkf : 20000 ≤ kf) (K N : Int) (A0 : Option Addr) (c0 : Nat) (X : List ByteArray) (K2 M : Int) (A1 : Option Addr) (c1 : Nat) (Y : List ByteArray) (A : Option Addr) (c : Nat) (l : List Int) (xs : List Nat) (a : Int) (w : World)
  (hX : X.length ≤ 60) (hN0 : 0 ≤ N) (hN1 : N < 18446744073709551616) (hK : -9223372036854775808 ≤ K ∧ K ≤ 9223372036854775807)
  (hY : Y.length ≤ 60) (hM0 : 0 ≤ M) (hM1 : M < 18446744073709551616) (hK2 : -9223372036854775808 ≤ K2 ∧ K2 ≤ 9223372036854775807)
  (hw : Words l xs) (hl : l.length ≤ 60)
  (h0 : Kd.C Kd.string w A0 X.length X) (hc0 : X.length ≤ c0) (h1 : Kd.C Kd.string w A1 Y.length Y) (hc1 : Y.length ≤ c1) (h2 : Kd.C (Kd.int .u64) w A l.length l) (hc : l.length ≤ c) :
  ∃ m1 m2 m3 m5 m6, Both kf K N A0 c0 X K2 M A1 c1 Y A c l a w m1 m2 m3 m5 m6 := by
 have hlen := hw.length
 have q1 := right_eq K N X hX hN0 hN1
 have q2 := right_alike K N X (by omega) hN0 hN1 hK kf (by omega)
 have q3 := right_eq K2 M Y hY hM0 hM1
 have q4 := right_alike K2 M Y (by omega) hM0 hM1 hK2 kf (by omega)
 have no : ∀ er : Int, ((rightB K N X = false ∧ er = 1) ∨ (rightB K N X = true ∧ ((rightB K2 M Y = false ∧ er = 1) ∨ (rightB K2 M Y = true ∧ ((K ≠ K2 ∧ er = 10) ∨ (K = K2 ∧ 4611686018427387904 < IntKind.u64.wrap (N + M) ∧ er = 12)))))) →
   ∃ m1 m2 m3 m5 m6, Both kf K N A0 c0 X K2 M A1 c1 Y A c l a w m1 m2 m3 m5 m6 := by
  intro er he
  refine ⟨0, 0, [], a, er, by simp, fun w1 hb => ⟨none_cp (merge_no kf er K N K2 M A0 c0 X A1 c1 Y A c l a w1 (Kd.C_below h0 hb) hc0 (Kd.C_below h1 hb) hc1 ?_), none_cp (rmerge_no kf er K N K2 M A0 c0 X A1 c1 Y A c l a w1 (Kd.C_below h0 hb) hc0 (Kd.C_below h1 hb) hc1 ?_)⟩⟩
  ·
   rw [q1, q3]; simpa only [Option.some.injEq] using he
  ·
   rw [q2, q4]; simpa only [Option.some.injEq] using he
 by_cases b1 : rightB K N X = false
 ·
  exact no 1 (.inl ⟨b1, rfl⟩)
 have b1 : rightB K N X = true := by simpa using b1
 by_cases b2 : rightB K2 M Y = false
 ·
  exact no 1 (.inr ⟨b1, .inl ⟨b2, rfl⟩⟩)
 have b2 : rightB K2 M Y = true := by simpa using b2
 by_cases b3 : K ≠ K2
 ·
  exact no 10 (.inr ⟨b1, .inr ⟨b2, .inl ⟨b3, rfl⟩⟩⟩)
 have b3 : K = K2 := Classical.not_not.mp b3
 by_cases b4 : 4611686018427387904 < IntKind.u64.wrap (N + M)
 ·
  exact no 12 (.inr ⟨b1, .inr ⟨b2, .inr ⟨b3, b4, rfl⟩⟩⟩)
 have b4 : IntKind.u64.wrap (N + M) ≤ 4611686018427387904 := by omega
 subst b3
 rw [b1] at q1 q2
 rw [b2] at q3 q4
 obtain ⟨k1, k2, _, n2, _, mX⟩ := right_facts q1
 obtain ⟨_, _, _, n4, _, mY⟩ := right_facts q3
 obtain ⟨nx, rfl⟩ : ∃ n : Nat, N = n := ⟨N.toNat, by omega⟩
 obtain ⟨ny, rfl⟩ : ∃ n : Nat, M = n := ⟨M.toNat, by omega⟩
 have e1 : IntKind.u64.wrap ((nx : Int) + (ny : Int)) = ((nx + ny : Nat) : Int) := by rw [wrapE]; omega
 unfold mn at mX mY
 obtain ⟨er, r, g1, g2, g3, g4⟩ := rounds_any hw hl (min K (IntKind.u64.wrap ((nx : Int) + (ny : Int)))).toNat nx ny a X Y (by rw [e1]; omega) (by rw [e1]; split at mX <;> omega) (by rw [e1]; split at mY <;> omega) (by omega) (by omega) (by rw [e1] at b4; omega)
 have hm : (min K (IntKind.u64.wrap ((nx : Int) + (ny : Int)))).toNat ≤ 1000 := by rw [e1]; split at mX <;> split at mY <;> omega
 have RM := fun (w1 : World) (hb : Below w.heap.size w w1) => rmerge_ok kf (l.length + 5) er g1 g2 K nx ny A0 c0 X A1 c1 Y A c l a (fun _ => True) w1 (Kd.C_below h0 hb) hc0 (Kd.C_below h1 hb) hc1 (Kd.V_mono (Kd.V_mk (base := w1.heap.size) (e := 23) hc (Kd.C_F (Kd.heap_int .u64) (Kd.C_below h2 hb))) (fun _ _ => trivial)) q2 q4 b4 k1 k2 (by omega) (by omega)
  (fun a d v p e d0 d1 hd => below_alike hw (by omega) (l.length + 5) kf (by omega) hkf a d v p e d0 d1 hd) (fun L i hL i0 i1 => without_alike L i hL i0 i1 kf (by omega)) r g3
 have cond : (true = true ∧ true = true ∧ K = K ∧ IntKind.u64.wrap ((nx : Int) + (ny : Int)) ≤ 4611686018427387904) := ⟨rfl, rfl, rfl, b4⟩
 rcases r with _ | ⟨items, b⟩
 ·
  exact ⟨0, 0, [], a, er, by simp, fun w1 hb => ⟨merge_cp K nx A0 c0 X K ny A1 c1 Y A c l a w w1 h0 hc0 h1 hc1 h2 hc hb g1 g2 (by unfold reserve_Merge.f; exact bnd q1 (bnd q3 (ift cond (bnd g3 rfl)))), none_cp (RM w1 hb)⟩⟩
 ·
  exact ⟨K, IntKind.u64.wrap ((nx : Int) + (ny : Int)), items, b, 0, by rw [g4 items b rfl]; exact hm, fun w1 hb => ⟨merge_cp K nx A0 c0 X K ny A1 c1 Y A c l a w w1 h0 hc0 h1 hc1 h2 hc hb g1 g2 (by unfold reserve_Merge.f; exact bnd q1 (bnd q3 (ift cond (bnd g3 rfl)))), rmerge_cp items b (RM w1 hb)⟩⟩
end Go.Proofs.Ythgacimoifbhiaa.Pure
