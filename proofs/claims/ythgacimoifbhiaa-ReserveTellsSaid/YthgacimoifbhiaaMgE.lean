import Derived.Test.YthgacimoifbhiaaMfE
namespace Go.Proofs.Ythgacimoifbhiaa
open Go.RowKit Go.Proofs.Ythgacimoifbhiaa.Q
set_option linter.unusedVariables false
theorem drawn_some {er : Int} {F : Nat} {l : List Int} {a d i b : Int} (h : drawn er F l a d = some (some (i, b))) : draw_Below.f F l a d = some (i, l, b, 0) := by
 unfold drawn at h
 obtain ⟨⟨t1, t2, t3, t4⟩, e, h⟩ := Option.bind_eq_some_iff.1 h
 rw [e]
 dsimp only at h
 split at h
 ·
  rename_i h1
  split at h
  ·
   rename_i h2
   simp only [Option.some.injEq, Prod.mk.injEq] at h
   obtain ⟨rfl, rfl⟩ := h
   rw [h1, h2]
  ·
   split at h <;> cases h
 ·
  cases h
theorem drawn_none {er : Int} {F : Nat} {l : List Int} {a d : Int} (h : drawn er F l a d = some none) : draw_Below.f F l a d = some (0, l, a, er) := by
 unfold drawn at h
 obtain ⟨⟨t1, t2, t3, t4⟩, e, h⟩ := Option.bind_eq_some_iff.1 h
 rw [e]
 dsimp only at h
 split at h
 ·
  split at h
  ·
   cases h
  ·
   split at h
   ·
    rename_i h3; rw [h3]
   ·
    cases h
 ·
  cases h
theorem picked_ways {er : Int} {F : Nat} {nx ny a : Int} {X Y : List ByteArray} {l : List Int} {t : Bool × Int × Int × Bool} (h : picked er F nx X ny Y l a = some t) :
  (∃ j b1 i b, t = (true, i, b, true) ∧ draw_Below.f F l a (IntKind.u64.wrap (nx + ny)) = some (j, l, b1, 0) ∧ j < nx ∧ draw_Below.f F l b1 (X.length : Int) = some (i, l, b, 0) ∧ 0 ≤ i ∧ i < X.length) ∨
  (∃ j b1 i b, t = (false, i, b, true) ∧ draw_Below.f F l a (IntKind.u64.wrap (nx + ny)) = some (j, l, b1, 0) ∧ ¬ j < nx ∧ draw_Below.f F l b1 (Y.length : Int) = some (i, l, b, 0) ∧ 0 ≤ i ∧ i < Y.length) ∨
  (t = (true, 0, a, false) ∧ draw_Below.f F l a (IntKind.u64.wrap (nx + ny)) = some (0, l, a, er)) ∨
  (∃ j b1, t = (true, 0, b1, false) ∧ draw_Below.f F l a (IntKind.u64.wrap (nx + ny)) = some (j, l, b1, 0) ∧ j < nx ∧ draw_Below.f F l b1 (X.length : Int) = some (0, l, b1, er)) ∨
  (∃ j b1, t = (false, 0, b1, false) ∧ draw_Below.f F l a (IntKind.u64.wrap (nx + ny)) = some (j, l, b1, 0) ∧ ¬ j < nx ∧ draw_Below.f F l b1 (Y.length : Int) = some (0, l, b1, er)) := by
 unfold picked at h
 obtain ⟨o, e, h⟩ := Option.bind_eq_some_iff.1 h
 rcases o with _ | ⟨j, b1⟩
 ·
  exact .inr (.inr (.inl ⟨(Option.some.inj h).symm, drawn_none e⟩))
 ·
  dsimp only at h
  split at h
  ·
   rename_i hj
   obtain ⟨o, e2, h⟩ := Option.bind_eq_some_iff.1 h
   rcases o with _ | ⟨i, b⟩
   ·
    exact .inr (.inr (.inr (.inl ⟨j, b1, (Option.some.inj h).symm, drawn_some e, hj, drawn_none e2⟩)))
   ·
    dsimp only at h
    split at h
    ·
     rename_i hi
     exact .inl ⟨j, b1, i, b, (Option.some.inj h).symm, drawn_some e, hj, drawn_some e2, hi.1, hi.2⟩
    ·
     cases h
  ·
   rename_i hj
   obtain ⟨o, e2, h⟩ := Option.bind_eq_some_iff.1 h
   rcases o with _ | ⟨i, b⟩
   ·
    exact .inr (.inr (.inr (.inr ⟨j, b1, (Option.some.inj h).symm, drawn_some e, hj, drawn_none e2⟩)))
   ·
    dsimp only at h
    split at h
    ·
     rename_i hi
     exact .inr (.inl ⟨j, b1, i, b, (Option.some.inj h).symm, drawn_some e, hj, drawn_some e2, hi.1, hi.2⟩)
    ·
     cases h
end Go.Proofs.Ythgacimoifbhiaa
