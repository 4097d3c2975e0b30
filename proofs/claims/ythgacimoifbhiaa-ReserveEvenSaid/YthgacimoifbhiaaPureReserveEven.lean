/- The law ReserveEven, plainly: twelve cases, each reckoned by the kernel. -/
import Derived.Test.YthgacimoifbhiaaEven
namespace Go.Proofs.Ythgacimoifbhiaa.Pure
open Go.RowKit Go.Maps Go.Proofs.Ythgacimoifbhiaa Go.Proofs.Ythgacimoifbhiaa.Q Go.Proofs.YthgacimoifbhiaaW.PrintWords Go.Proofs.YthgacimoifbhiaaW.PrintLast Go.Proofs.YthgacimoifbhiaaW.PrintMore
set_option linter.unusedVariables false
set_option linter.unusedSimpArgs false
theorem awake0 : samphirelaw16_awake.f 30 = some true := by decide +kernel
/-- A sample behind i keys: its N, its keys, what is left of v. -/
def run (n v : Nat) : Nat → Option (Int × List ByteArray × Int)
  | 0 => some (0, [], (v : Int))
  | i + 1 => (run n v i).bind fun s => (reserve_Add.f 30 (n : Int) s.1 s.2.1 (evKey i) (evWords n i s.2.2) 0).bind fun r => if r.1 = (n : Int) ∧ r.2.2.2.2.2 = 0 then some (r.2.1, r.2.2.1, if n ≤ i then s.2.2 / ((i : Int) + 1) else s.2.2) else none
def at_ (n v i : Nat) : Int × List ByteArray × Int := (run n v i).getD (0, [], 0)
def letter (x : ByteArray) : Nat := (x.data.getD 0 0).toNat - 97
def setOf_ (l : List ByteArray) : Nat → Int
  | 0 => 0
  | j + 1 => bits BinOp.or IntKind.i64 (setOf_ l j) (wrap64 (2 ^ letter (l.getD j ByteArray.empty)))
def vecs (n : Nat) : Nat → Nat
  | 0 => 1
  | i + 1 => vecs n i * (n + 1 + i)
def eachs : Nat → Nat
  | 0 => 1
  | i + 1 => eachs i * (1 + i)
def subs (n e : Nat) : Nat → Nat
  | 0 => 1
  | i + 1 => subs n e i * (n + e - i) / (i + 1)
def num : DataW Unit → Int
  | .lit (.int _ c) => c
  | _ => 0
def key (n e v : Nat) : Int := setOf_ (at_ n v (n + e)).2.1 (at_ n v (n + e)).2.1.length
def many (n e : Nat) : Nat → DataW Unit
  | 0 => .map []
  | v + 1 => (many n e v).put (.int .i64 (key n e v)) (.lit (.int .i64 (wrap64 (num ((many n e v).atKey (.int .i64 (key n e v)) (.lit (.int .i64 0))) + 1))))
def okItem (l : List ByteArray) (j : Nat) : Bool := decide (letter (l.getD j ByteArray.empty) ≤ 5) && ((l.getD j ByteArray.empty).data.toList == [UInt8.ofNat (97 + letter (l.getD j ByteArray.empty))])
def okV (n e v : Nat) : Bool :=
  (run n v (n + e)).isSome && decide ((at_ n v (n + e)).2.1.length ≤ 3) && (List.range (at_ n v (n + e)).2.1.length).all (okItem (at_ n v (n + e)).2.1) && decide (0 ≤ key n e v) && decide (key n e v ≤ 63)
def okEnd (n e : Nat) : Bool := match many n e (vecs n e) with
  | .map es => es.all (fun p => match p.2 with | .lit (.int .i64 c) => c == (eachs e : Int) | _ => false) && es.length == subs n e n
  | _ => false
def ok (n e : Nat) : Bool := (List.range (vecs n e)).all (okV n e) && okEnd n e && decide (vecs n e ≤ 1000)
theorem ok_1 : (List.range 4).all (ok 1) = true := by decide +kernel
theorem ok_2 : (List.range 4).all (ok 2) = true := by decide +kernel
theorem ok_3 : (List.range 4).all (ok 3) = true := by decide +kernel
theorem ok_all {n e : Nat} (h1 : 1 ≤ n) (h3 : n ≤ 3) (he : e ≤ 3) : ok n e = true := by
  obtain rfl | rfl | rfl : n = 1 ∨ n = 2 ∨ n = 3 := by omega
  · exact List.all_eq_true.1 ok_1 e (List.mem_range.2 (by omega))
  · exact List.all_eq_true.1 ok_2 e (List.mem_range.2 (by omega))
  · exact List.all_eq_true.1 ok_3 e (List.mem_range.2 (by omega))
theorem run_le (n v : Nat) : ∀ i s, run n v i = some s → 0 ≤ s.2.2 ∧ s.2.2 ≤ (v : Int)
  | 0, s, h => by cases h; exact ⟨Int.natCast_nonneg _, Int.le_refl _⟩
  | i + 1, s, h => by
    obtain ⟨t, ht, h⟩ := Option.bind_eq_some_iff.mp h
    obtain ⟨r, hr, h⟩ := Option.bind_eq_some_iff.mp h
    obtain ⟨q1, q2⟩ := run_le n v i t ht
    split at h
    · cases h
      show 0 ≤ (if n ≤ i then t.2.2 / ((i : Int) + 1) else t.2.2) ∧ (if n ≤ i then t.2.2 / ((i : Int) + 1) else t.2.2) ≤ (v : Int)
      split
      · exact ⟨Int.ediv_nonneg q1 (by omega), Int.le_trans (Int.ediv_le_self _ q1) q2⟩
      · exact ⟨q1, q2⟩
    · cases h
theorem run_some (n v : Nat) : ∀ k i, i ≤ k → (run n v k).isSome = true → (run n v i).isSome = true
  | 0, i, hi, h => by obtain rfl : i = 0 := by omega
                      exact h
  | k + 1, i, hi, h => by
    by_cases hk : i = k + 1
    · subst hk; exact h
    · refine run_some n v k i (by omega) ?_
      obtain ⟨s, hs⟩ := Option.isSome_iff_exists.1 h
      obtain ⟨t, ht, _⟩ := Option.bind_eq_some_iff.mp hs
      rw [ht]; rfl
theorem run_step {n v i : Nat} (h : (run n v (i + 1)).isSome = true) :
    (∃ r4 r5, reserve_Add.f 30 n (at_ n v i).1 (at_ n v i).2.1 (evKey i) (evWords n i (at_ n v i).2.2) 0 = some ((n : Int), (at_ n v (i + 1)).1, (at_ n v (i + 1)).2.1, r4, r5, 0)) ∧ (at_ n v (i + 1)).2.2 = if n ≤ i then (at_ n v i).2.2 / ((i : Int) + 1) else (at_ n v i).2.2 := by
  obtain ⟨s, hs⟩ := Option.isSome_iff_exists.1 h
  obtain ⟨t, ht, h2⟩ := Option.bind_eq_some_iff.mp hs
  obtain ⟨r, hr, h3⟩ := Option.bind_eq_some_iff.mp h2
  have e1 : at_ n v (i + 1) = s := by unfold at_; rw [hs]; rfl
  have e0 : at_ n v i = t := by unfold at_; rw [ht]; rfl
  rw [e1, e0]
  split at h3
  · rename_i hc
    cases h3
    obtain ⟨r1, r2, r3, r4, r5, r6⟩ := r
    obtain ⟨rfl, rfl⟩ := hc
    exact ⟨⟨r4, r5, hr⟩, rfl⟩
  · cases h3
theorem tab_v : ∀ n : Fin 4, ∀ i : Fin 3, wrap64 ((vecs n.val i.val : Int) * ((n.val : Int) + 1 + (i.val : Int))) = (vecs n.val (i.val + 1) : Int) := by decide +kernel
theorem tab_e : ∀ i : Fin 3, wrap64 ((eachs i.val : Int) * (1 + (i.val : Int))) = (eachs (i.val + 1) : Int) := by decide +kernel
theorem tab_c : ∀ n : Fin 4, ∀ e : Fin 4, ∀ i : Fin 4, i.val < n.val → wrap64 ((wrap64 ((subs n.val e.val i.val : Int) * ((n.val : Int) + (e.val : Int) - (i.val : Int)))).tdiv ((i.val : Int) + 1)) = (subs n.val e.val (i.val + 1) : Int) := by decide +kernel
theorem tab_new : ∀ n : Fin 4, 1 ≤ n.val → reserve_New.f (n.val : Int) = some ((n.val : Int), 0, [], 0) := by decide +kernel
theorem item {l : List ByteArray} {j : Nat} (h : okItem l j = true) : letter (l.getD j ByteArray.empty) ≤ 5 ∧ l.getD j ByteArray.empty = ⟨#[UInt8.ofNat (97 + letter (l.getD j ByteArray.empty))]⟩ := by
  unfold okItem at h
  rw [Bool.and_eq_true, decide_eq_true_eq, beq_iff_eq] at h
  refine ⟨h.1, ?_⟩
  have h2 := h.2
  generalize letter (l.getD j ByteArray.empty) = d at h2 ⊢
  generalize l.getD j ByteArray.empty = x at h2 ⊢
  cases x with
  | mk a => exact congrArg ByteArray.mk (Array.toList_inj.1 h2)
theorem reserveEven_walk (k more : Int) (w : World) (hk : (Lit.int .u8 k).wf = true) (hm : (Lit.int .u8 more).wf = true) :
    Calls Try.prog 3 #[.int .u8 k, .int .u8 more] w fun e w' => e = .returned (.bool true) ∧ Below w.heap.size w w' := by
  have hk' : 0 ≤ k ∧ k < 256 := by simp [Lit.wf, IntKind.min, IntKind.max, IntKind.signed, IntKind.bits] at hk; omega
  have hm' : 0 ≤ more ∧ more < 256 := by simp [Lit.wf, IntKind.min, IntKind.max, IntKind.signed, IntKind.bits] at hm; omega
  obtain ⟨n, hn⟩ : ∃ n : Nat, n = 1 + k.toNat % 3 := ⟨_, rfl⟩
  obtain ⟨e, he⟩ : ∃ e : Nat, e = more.toNat % 4 := ⟨_, rfl⟩
  have hn2 : wrap64 (1 + wrap64 (k.tmod 3)) = (n : Int) := by
    rw [Int.tmod_eq_emod_of_nonneg hk'.1]
    unfold wrap64
    omega
  have he2 : wrap64 (more.tmod 4) = (e : Int) := by
    rw [Int.tmod_eq_emod_of_nonneg hm'.1]
    unfold wrap64
    omega
  have hn3 : 1 ≤ n ∧ n ≤ 3 := by omega
  have he3 : e ≤ 3 := by omega
  clear hn he
  have h := ok_all hn3.1 hn3.2 he3
  unfold ok at h
  rw [Bool.and_eq_true, Bool.and_eq_true, decide_eq_true_eq, List.all_eq_true] at h
  obtain ⟨⟨hv, hend⟩, hle⟩ := h
  have hv' : ∀ v, v < vecs n e → (run n v (n + e)).isSome = true ∧ (at_ n v (n + e)).2.1.length ≤ 3 ∧ (∀ j, j < (at_ n v (n + e)).2.1.length → okItem (at_ n v (n + e)).2.1 j = true) ∧ 0 ≤ key n e v ∧ key n e v ≤ 63 := by
    intro v hlt
    have q := hv v (List.mem_range.2 hlt)
    unfold okV at q
    simp only [Bool.and_eq_true, decide_eq_true_eq, List.all_eq_true, List.mem_range] at q
    exact ⟨q.1.1.1.1, q.1.1.1.2, q.1.1.2, q.1.2, q.2⟩
  refine even_in 30 k more n e w (vecs n) eachs (subs n e) (fun v i => (at_ n v i).1) (fun v i => (at_ n v i).2.1) (fun v i => (at_ n v i).2.2) (fun v j => setOf_ (at_ n v (n + e)).2.1 j) (fun _ _ => 0) (many n e) awake0 hn2 he2 hn3.1 hn3.2 he3 rfl rfl rfl
    (fun i hi => tab_v ⟨n, by omega⟩ ⟨i, by omega⟩) (fun i hi => tab_e ⟨i, by omega⟩) hle rfl (fun v hlt => (hv' v hlt).2.1) (fun v hlt => ⟨rfl, fun j hj => ⟨_, (item ((hv' v hlt).2.2.1 j hj)).1, (item ((hv' v hlt).2.2.1 j hj)).2, rfl⟩⟩)
    (fun v hlt => (hv' v hlt).2.2.2) (fun v hlt c hc => ?_) ?_ (fun i hi => tab_c ⟨n, by omega⟩ ⟨e, by omega⟩ ⟨i, by omega⟩ hi) ?_ (tab_new ⟨n, by omega⟩ hn3.1) (fun v => ⟨rfl, rfl, rfl⟩) (fun v i hlt => ?_) (fun v i hlt hi => ?_)
  · show (many n e v).put (.int .i64 (key n e v)) (.lit (.int .i64 (wrap64 (num ((many n e v).atKey (.int .i64 (key n e v)) (.lit (.int .i64 0))) + 1)))) = _
    have hc' : (many n e v).atKey (.int .i64 (key n e v)) (.lit (.int .i64 0)) = .lit (.int .i64 c) := hc
    rw [hc']
    rfl
  · intro x c hhas hat
    unfold okEnd at hend
    generalize many n e (vecs n e) = D at *
    cases D <;> try cases hend
    rename_i es
    rw [Bool.and_eq_true, List.all_eq_true] at hend
    have h1 : es.any (fun p => p.1.sameKey (.int .i64 x)) = true := hhas
    have h2 := hat (.lit (.int .i64 0))
    unfold DataW.atKey at h2
    cases hf : es.find? (fun p => p.1.sameKey (.int .i64 x)) with
    | none =>
      rw [List.find?_eq_none] at hf
      obtain ⟨p, hp, hq⟩ := List.any_eq_true.1 h1
      exact absurd hq (hf p hp)
    | some p =>
      have hp := hend.1 p (List.mem_of_find?_eq_some hf)
      simp only [hf] at h2
      rw [h2] at hp
      simpa using hp
  · unfold okEnd at hend
    generalize many n e (vecs n e) = D at *
    cases D <;> try cases hend
    rename_i es
    rw [Bool.and_eq_true, beq_iff_eq] at hend
    exact hend.2
  · show 0 ≤ (at_ n v i).2.2 ∧ (at_ n v i).2.2 ≤ 1000
    unfold at_
    cases hr : run n v i with
    | none => exact ⟨Int.le_refl _, by show (0 : Int) ≤ 1000; omega⟩
    | some s =>
      have := run_le n v i s hr
      exact ⟨this.1, by show s.2.2 ≤ 1000; omega⟩
  · exact run_step (run_some n v (n + e) (i + 1) (by omega) (hv' v hlt).1)
end Go.Proofs.Ythgacimoifbhiaa.Pure
