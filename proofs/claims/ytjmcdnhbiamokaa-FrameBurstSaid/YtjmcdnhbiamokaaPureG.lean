/- More of frames over lists: they are apart; a part is none. -/
import Derived.Test.YtjmcdnhbiamokaaPureF
namespace Go.Proofs.Ytjmcdnhbiamokaa.Pure
open Go.RowKit Go.Proofs.Ytjmcdnhbiamokaa.Q Go.Proofs.YtjmcdnhbiamokaaW.PrintWords Go.Proofs.YtjmcdnhbiamokaaW.PrintLast
set_option linter.unusedVariables false
set_option linter.unusedSimpArgs false
theorem kind_w (a : Int) (h : (Lit.int .u8 a).wf = true) : ∃ n : Nat, a = n ∧ n < 256 ∧ wrap64 (1 + wrap64 (Int.tmod a 8)) = ((1 + n % 8 : Nat) : Int) ∧ Int.tmod a 8 = ((n % 8 : Nat) : Int) := by
  have h2 : 0 ≤ a ∧ a ≤ 255 := by
    simp only [Lit.wf, Bool.and_eq_true, decide_eq_true_eq] at h
    have e1 : IntKind.u8.min = 0 := rfl
    have e2 : IntKind.u8.max = 255 := rfl
    omega
  refine ⟨a.toNat, by omega, by omega, ?_, ?_⟩
  · have e : Int.tmod a 8 = a % 8 := Int.tmod_eq_emod_of_nonneg (by omega)
    rw [e]; unfold wrap64; omega
  · have e : Int.tmod a 8 = a % 8 := Int.tmod_eq_emod_of_nonneg (by omega)
    rw [e]; omega
theorem frame_size {t p : ByteArray} {k : Nat} (hp : p.size ≤ 65536) (h : t.data.toList = frameL k p) : t.size ≤ 70000 ∧ 11 ≤ t.size := by
  have := vi_len p.size 9 (Nat.lt_of_le_of_lt hp (by decide))
  have := vi_pos p.size
  have e : t.size = 10 + (vi p.size).length + p.size := by
    rw [size_list, h]; simp [frameL, head, sum4_len]; omega
  omega
theorem frame_inj {t u p q : ByteArray} {j k : Nat} (hj1 : 1 ≤ j) (hj8 : j ≤ 8) (hk1 : 1 ≤ k) (hk8 : k ≤ 8) (hp : p.size ≤ 65536) (hq : q.size ≤ 65536) (ht : t.data.toList = frameL j p) (hu : u.data.toList = frameL k q) : t = u ↔ j = k ∧ p = q := by
  constructor
  · intro h
    have h1 := open_frame (s := t) (by have := frame_size hp ht; omega) hj1 hj8 hp ht
    have h2 := open_frame (s := u) (by have := frame_size hq hu; omega) hk1 hk8 hq hu
    rw [h, h2] at h1
    simp only [Option.some.injEq, Prod.mk.injEq, and_true] at h1
    exact ⟨by omega, h1.2.symm⟩
  · rintro ⟨rfl, rfl⟩
    exact ba_ext (by rw [ht, hu])
theorem beq_list (t u : ByteArray) : (t.toList == u.toList) = decide (t = u) := by
  by_cases h : t = u
  · subst h; simp
  · rw [decide_eq_false h]
    simpa using fun e => h (toList_inj e)
theorem head_inj {j k : Nat} {p q : ByteArray} {r u : List UInt8} (hj : j ≤ 8) (hk : k ≤ 8) (hp : p.size ≤ 65536) (hq : q.size ≤ 65536) (h : head j p ++ r = head k q ++ u) : j = k ∧ p = q ∧ r = u := by
  have h1 : UInt8.ofNat j :: (vi p.size ++ (p.data.toList ++ r)) = UInt8.ofNat k :: (vi q.size ++ (q.data.toList ++ u)) := by
    have := congrArg (List.drop 5) h
    simpa [head] using this
  have hjk : j = k := by
    have := congrArg UInt8.toNat (List.cons.inj h1).1
    rwa [u8_nat (by omega), u8_nat (by omega)] at this
  have a := textF_vi (s := ⟨(UInt8.ofNat j :: (vi p.size ++ (p.data.toList ++ r))).toArray⟩) (p := p) (a := 1) (most := 65536) (rest := r) rfl hp (by omega)
  have b := textF_vi (s := ⟨(UInt8.ofNat j :: (vi p.size ++ (p.data.toList ++ r))).toArray⟩) (p := q) (a := 1) (most := 65536) (rest := u) (by rw [h1]; rfl) hq (by omega)
  rw [a] at b
  have hpq : p = q := (Prod.mk.inj (Option.some.inj b)).1
  subst hjk
  subst hpq
  exact ⟨rfl, rfl, List.append_cancel_left h⟩
/-- A frame with bytes behind is none. -/
theorem more_no {s x : ByteArray} {k : Nat} {p : ByteArray} (h8 : k ≤ 8) (hp : p.size ≤ 65536) (hs : s.data.toList = frameL k p) (hx : x.data.toList ≠ []) : ∀ k' p' t, ¬ Form (s ++ x).data.toList k' p' t := by
  intro k' p' t F
  have h := F.list
  rw [app_list, hs, frameL, List.append_assoc] at h
  obtain ⟨_, _, e⟩ := head_inj h8 F.kind8 hp F.size h
  have := congrArg List.length e
  rw [List.length_append, sum4_len, F.four] at this
  exact hx (List.eq_nil_of_length_eq_zero (by omega))
/-- A frame that is cut off is none. -/
theorem cut_no {s : ByteArray} {k m : Nat} {p : ByteArray} (h8 : k ≤ 8) (hp : p.size ≤ 65536) (hs : s.data.toList = frameL k p) (hm : m < s.size) : ∀ k' p' t, ¬ Form (s.extract 0 m).data.toList k' p' t := by
  intro k' p' t F
  have h := F.list
  rw [ByteArray.data_extract, Array.toList_extract, List.extract_eq_take_drop] at h
  simp only [List.drop_zero, Nat.sub_zero] at h
  have h2 : frameL k p = (head k' p' ++ t) ++ s.data.toList.drop m := by rw [← h, List.take_append_drop, hs]
  rw [frameL, List.append_assoc] at h2
  obtain ⟨_, _, e⟩ := head_inj h8 F.kind8 hp F.size h2
  have := congrArg List.length e
  have hl : s.data.toList.length = s.size := by simp
  rw [List.length_append, sum4_len, F.four, List.length_drop, hl] at this
  omega
end Go.Proofs.Ytjmcdnhbiamokaa.Pure
