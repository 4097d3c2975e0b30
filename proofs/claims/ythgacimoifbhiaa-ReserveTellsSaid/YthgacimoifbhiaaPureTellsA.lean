import Derived.Test.YthgacimoifbhiaaDrawP
import Derived.Test.YthgacimoifbhiaaMergePE
import Derived.Test.YthgacimoifbhiaaTx5
namespace Go.Proofs.Ythgacimoifbhiaa.Pure
open Go.RowKit Go.Proofs.Ythgacimoifbhiaa.Q Go.Proofs.Ythgacimoifbhiaa.DrawP Go.Proofs.YthgacimoifbhiaaW.PrintWords Go.Proofs.YthgacimoifbhiaaW.PrintLast
open Go.Proofs.Ythgacimoifbhiaa (rounds_yes rounds_no after leftOf_length)
set_option linter.unusedVariables false
set_option linter.unusedSimpArgs false
theorem wrapE (x : Int) : IntKind.u64.wrap x = x % 18446744073709551616 := IntKind.wrap_u64 x
theorem pick_ix (M d : Nat) : ∀ (l : List Nat) (i x j : Nat), pick M d l i = some (x, j) → j ≤ i + l.length := by
 intro l
 induction l with
 | nil => intro i x j h; simp [pick] at h
 | cons y l ih =>
  intro i x j h
  unfold pick at h
  split at h
  ·
   cases h; simp only [List.length_cons]; omega
  ·
   have := ih (i + 1) x j h
   simp only [List.length_cons]
   omega
theorem drawnE {l : List Int} {xs : List Nat} (h : Words l xs) (hl : l.length ≤ 60) (d a : Nat) (hd0 : 0 < d) (hd : d < 18446744073709551616) (ha : a ≤ l.length) :
  drawn 8 (l.length + 5) l (a : Int) (d : Int) = some none ∨ ∃ i b : Nat, drawn 8 (l.length + 5) l (a : Int) (d : Int) = some (some ((i : Int), (b : Int))) ∧ i < d ∧ b ≤ l.length := by
 have hlen := h.length
 have hb := below d _ hd0 hd rfl (by rw [bitLen_blen _ (by omega)]; exact blen_le _ 64 (by omega)) h a (by omega) (by omega) (l.length + 5) (by omega)
 unfold drawn
 by_cases hm : Lib.bitLen (d - 1) = 0
 ·
  rw [if_pos hm] at hb
  exact .inr ⟨0, a, bnd hb (ift rfl (ift rfl rfl)), hd0, ha⟩
 ·
  rw [if_neg hm] at hb
  rcases hp : pick (2 ^ Lib.bitLen (d - 1)) d (xs.drop a) 0 with _ | ⟨x, j⟩
  ·
   rw [hp] at hb
   exact .inl (bnd hb (ift rfl (iff_ (show ¬ (8 : Int) = 0 by decide) (ift rfl rfl))))
  ·
   rw [hp] at hb
   have h1 := pick_lt _ _ _ _ _ _ hp
   have h2 := pick_ix _ _ _ _ _ _ hp
   rw [List.length_drop] at h2
   exact .inr ⟨x, a + j, bnd hb (ift rfl (ift rfl rfl)), h1, by omega⟩
theorem rounds_ex {l : List Int} {xs : List Nat} (h : Words l xs) (hl : l.length ≤ 60) (m : Nat) : ∀ (nx ny a : Nat) (X Y items : List ByteArray), m ≤ nx + ny → min m nx ≤ X.length → min m ny ≤ Y.length → X.length ≤ 1024 → Y.length ≤ 1024 → nx + ny ≤ 4611686018427387904 → a ≤ l.length →
  rounds 8 (l.length + 5) l m (nx : Int) X (ny : Int) Y (a : Int) items = some none ∨ ∃ (r : List ByteArray) (b : Nat), rounds 8 (l.length + 5) l m (nx : Int) X (ny : Int) Y (a : Int) items = some (some (r, (b : Int))) ∧ r.length = items.length + m := by
 induction m with
 | zero =>
  intro nx ny a X Y items _ _ _ _ _ _ _
  exact .inr ⟨items, a, rfl, rfl⟩
 | succ m ih =>
  intro nx ny a X Y items hm hX hY lX lY hn ha
  have e1 : IntKind.u64.wrap ((nx : Int) + (ny : Int)) = ((nx + ny : Nat) : Int) := by rw [wrapE]; omega
  rcases drawnE h hl (nx + ny) a (by omega) (by omega) ha with d1 | ⟨j, b1, d1, hj, hb1⟩
  ·
   refine .inl (rounds_no (t := (true, 0, (a : Int), false)) ?_ rfl)
   unfold picked
   rw [e1]
   exact bnd d1 rfl
  ·
   by_cases hjx : j < nx
   ·
    have e2 : IntKind.u64.wrap ((nx : Int) - 1) = ((nx - 1 : Nat) : Int) := by rw [wrapE]; omega
    rcases drawnE h hl X.length b1 (by omega) (by omega) hb1 with d2 | ⟨i, b, d2, hi, hb⟩
    ·
     refine .inl (rounds_no (t := (true, 0, (b1 : Int), false)) ?_ rfl)
     unfold picked
     rw [e1]
     exact bnd d1 (ift (by omega) (bnd d2 rfl))
    ·
     have hp : picked 8 (l.length + 5) (nx : Int) X (ny : Int) Y l (a : Int) = some (true, (i : Int), (b : Int), true) := by
      unfold picked
      rw [e1]
      exact bnd d1 (ift (by omega) (bnd d2 (ift ⟨by omega, by omega⟩ rfl)))
     have hr := rounds_yes (F := l.length + 5) (m := m) (items := items) hp rfl
     have ha2 : after (nx : Int) X (ny : Int) Y (true, (i : Int), (b : Int), true) = (((nx - 1 : Nat) : Int), Q.leftOf X (i : Int), (ny : Int), Y, rdOf ByteArray.empty X (i : Int)) := by
      unfold after; rw [if_pos rfl, e2]
     rw [ha2] at hr
     have hll := leftOf_length X (i : Int)
     rw [hr]
     rcases ih (nx - 1) ny b (Q.leftOf X (i : Int)) Y (items ++ [rdOf ByteArray.empty X (i : Int)]) (by omega) (by omega) (by omega) (by omega) lY (by omega) hb with g | ⟨r, b2, g, g1⟩
     ·
      exact .inl g
     ·
      exact .inr ⟨r, b2, g, by rw [g1]; simp; omega⟩
   ·
    have e2 : IntKind.u64.wrap ((ny : Int) - 1) = ((ny - 1 : Nat) : Int) := by rw [wrapE]; omega
    rcases drawnE h hl Y.length b1 (by omega) (by omega) hb1 with d2 | ⟨i, b, d2, hi, hb⟩
    ·
     refine .inl (rounds_no (t := (false, 0, (b1 : Int), false)) ?_ rfl)
     unfold picked
     rw [e1]
     exact bnd d1 (iff_ (by omega) (bnd d2 rfl))
    ·
     have hp : picked 8 (l.length + 5) (nx : Int) X (ny : Int) Y l (a : Int) = some (false, (i : Int), (b : Int), true) := by
      unfold picked
      rw [e1]
      exact bnd d1 (iff_ (by omega) (bnd d2 (ift ⟨by omega, by omega⟩ rfl)))
     have hr := rounds_yes (F := l.length + 5) (m := m) (items := items) hp rfl
     have ha2 : after (nx : Int) X (ny : Int) Y (false, (i : Int), (b : Int), true) = ((nx : Int), X, ((ny - 1 : Nat) : Int), Q.leftOf Y (i : Int), rdOf ByteArray.empty Y (i : Int)) := by
      unfold after; rw [if_neg (by simp), e2]
     rw [ha2] at hr
     have hll := leftOf_length Y (i : Int)
     rw [hr]
     rcases ih nx (ny - 1) b X (Q.leftOf Y (i : Int)) (items ++ [rdOf ByteArray.empty Y (i : Int)]) (by omega) (by omega) (by omega) lX (by omega) (by omega) hb with g | ⟨r, b2, g, g1⟩
     ·
      exact .inl g
     ·
      exact .inr ⟨r, b2, g, by rw [g1]; simp; omega⟩
end Go.Proofs.Ythgacimoifbhiaa.Pure
