/- wire's Reader.Text, against a plain function of the text and the place. -/
import Derived.Test.YtjmcdnhbiamokaaNum
import Derived.Deep.RegionHeld3
namespace Go.Proofs.Ytjmcdnhbiamokaa
open Go.RowKit Go.Proofs.YtjmcdnhbiamokaaW.PrintWords
set_option linter.unusedVariables false
set_option linter.unusedSimpArgs false
/-- A text that begins at a place: what it is, and the place behind it. -/
def textF (s : ByteArray) (a most : Nat) : Option (ByteArray × Nat) := (numF s a (min most s.size)).bind fun r => if r.2 + r.1 ≤ s.size then some (s.extract r.2 (r.2 + r.1), r.2 + r.1) else none
theorem nget_le (s : ByteArray) : ∀ f a i o v b, a ≤ s.size → nget s a i o f = some (v, b) → b ≤ s.size := by
  intro f
  induction f with
  | zero => intro a i o v b ha h; simp [nget] at h; omega
  | succ f ih =>
    intro a i o v b ha h
    rw [nget] at h
    split at h
    · split at h
      · split at h
        · split at h
          · simp at h; omega
          · cases h
        · exact ih _ _ _ _ _ (by omega) h
      · cases h
    · cases h
theorem numF_le {s : ByteArray} {a most v b : Nat} (ha : a ≤ s.size) (h : numF s a most = some (v, b)) : v ≤ most ∧ b ≤ s.size := by
  unfold numF at h
  cases hn : nget s a 0 0 10 with
  | none => rw [hn] at h; cases h
  | some r =>
    obtain ⟨v', b'⟩ := r
    rw [hn] at h
    simp only [Option.bind_some] at h
    split at h
    · rename_i hv
      simp at h
      obtain ⟨rfl, rfl⟩ := h
      exact ⟨hv, nget_le s _ _ _ _ _ _ ha hn⟩
    · cases h
theorem textF_some {s : ByteArray} {a m b : Nat} {str : ByteArray} (hF : textF s a m = some (str, b)) : ∃ v c, numF s a (min m s.size) = some (v, c) ∧ c + v ≤ s.size ∧ str = s.extract c (c + v) ∧ b = c + v := by
  unfold textF at hF
  cases hn : numF s a (min m s.size) with
  | none => rw [hn] at hF; cases hF
  | some r =>
    obtain ⟨v, c⟩ := r
    rw [hn] at hF
    simp only [Option.bind_some] at hF
    split at hF
    · rename_i hv
      simp at hF
      exact ⟨v, c, rfl, hv, hF.1.symm, hF.2.symm⟩
    · cases hF
theorem number_yes (g : Nat) (s : ByteArray) (a most v c : Nat) (i : Int) (l : Bool) (w : World) (hi : i = (most : Int)) (h : RB w g s a l) (ha : a ≤ s.size) (hz : s.size ≤ 140737488351232) (hm : most < 18446744073709551616) (hN : numF s a most = some (v, c)) :
    Calls Try.prog 29 #[.pointer (some ⟨g, 0, none⟩), .int .u64 i] w fun e w' => e = .returned (.int .u64 (v : Int)) ∧ Oth (· = g) w w' ∧ RB w' g s (c : Int) l := by
  subst hi
  refine (number_any g s a most l w h ha hz hm).mono ?_
  rintro e w' ⟨hO, hR⟩
  unfold NumR at hR
  rw [hN] at hR
  exact ⟨hR.1, hO, hR.2⟩
theorem number_no (g : Nat) (s : ByteArray) (a most : Nat) (i : Int) (l : Bool) (w : World) (hi : i = (most : Int)) (h : RB w g s a l) (ha : a ≤ s.size) (hz : s.size ≤ 140737488351232) (hm : most < 18446744073709551616) (hN : numF s a most = none) :
    Calls Try.prog 29 #[.pointer (some ⟨g, 0, none⟩), .int .u64 i] w fun e w' => e = .panicked [lostP] ∧ Oth (· = g) w w' ∧ ∃ c : Nat, RB w' g s (c : Int) l := by
  subst hi
  refine (number_any g s a most l w h ha hz hm).mono ?_
  rintro e w' ⟨hO, hR⟩
  unfold NumR at hR
  rw [hN] at hR
  obtain ⟨rfl, b, _, hR⟩ := hR
  exact ⟨rfl, hO, b, hR⟩
theorem take_ok (g : Nat) (s : ByteArray) (a n : Nat) (l : Bool) (w : World) (h : RB w g s a l) (hz : s.size ≤ 140737488351232) (hn : a + n ≤ s.size) :
    Calls Try.prog 28 #[.pointer (some ⟨g, 0, none⟩), .int .i64 n] w fun e w' => e = .returned (.string (s.extract a (a + n))) ∧ Oth (· = g) w w' ∧ RB w' g s ((a + n : Nat) : Int) l := by
  refine (take_yes g s a n l w h (by omega) (by omega) (by omega) hz (by omega)).mono ?_
  rintro e w' ⟨rfl, hR, w2, D1, D2⟩
  refine ⟨?_, (Oth.drawn D1).trans ((Oth.set (S := (· = g)) (Oth.refl _ _) (.inl rfl) _).trans (Oth.drawn D2)), by exact_mod_cast hR⟩
  rw [show ((a : Int) + n).toNat = a + n by omega, Int.toNat_natCast]
theorem lost_end {p2 : Addr} {g : Nat} {s x : ByteArray} {c : Int} {l : Bool} {w w1 w2 w3 : World} (n2 : p2.block ≠ g) (D : Drawn0 w w1) (hO2 : Oth (· = g) w1 w2) (hD3 : Drawn0 w2 w3) (hR2 : RB w2 g s c l) (h2 : w.cell? p2 = some (.string x)) (f2 : w.frozen? p2 = false) :
    Oth (fun k => k = g ∨ k = p2.block) w w3 ∧ RB w3 g s c l ∧ w3.cell? p2 = some (.string x) ∧ w3.frozen? p2 = false := by
  have O : Oth (· = g) w w3 := ((Oth.drawn D).trans hO2).trans (Oth.drawn hD3)
  exact ⟨O.mono (fun i h => .inl (.inl h)), hR2.drawn hD3, O.cell n2 h2, by rw [O.frozen n2 (lt_cell h2)]; exact f2⟩
set_option maxRecDepth 100000 in
set_option maxHeartbeats 4000000 in
theorem text1_yes (p0 p1 p2 : Addr) (g : Nat) (s : ByteArray) (a m b : Nat) (l : Bool) (str x : ByteArray) (w : World) (h0 : w.cell? p0 = some (.int .i64 (m : Int))) (h1 : w.cell? p1 = some (.pointer (some ⟨g, 0, none⟩))) (h2 : w.cell? p2 = some (.string x)) (f2 : w.frozen? p2 = false) (n0 : p0.block ≠ g) (n1 : p1.block ≠ g) (n2 : p2.block ≠ g) (n20 : p2.block ≠ p0.block) (n21 : p2.block ≠ p1.block)
    (hR : RB w g s a l) (ha : a ≤ s.size) (hz : s.size ≤ 140737488351232) (hm : m ≤ 140737488351232) (hF : textF s a m = some (str, b)) :
    Calls Try.prog 26 #[.pointer (some p0), .pointer (some p1), .pointer (some p2)] w fun e w' => e = .returned (.tuple #[]) ∧ Oth (fun k => k = g ∨ k = p2.block) w w' ∧ RB w' g s b l ∧ w'.cell? p2 = some (.string str) ∧ w'.frozen? p2 = false := by
  obtain ⟨v, c, hN, hvc, rfl, rfl⟩ := textF_some hF
  obtain ⟨q, hq⟩ : ∃ q, q = min m s.size := ⟨_, rfl⟩
  have hv := (numF_le ha hN).1
  have hR' := Lib.hid hR
  have c0 := hR.c0
  have hif : (if s.size < m then (s.size : Int) else (m : Int)) = (q : Int) := by split <;> omega
  have hmin : IntKind.u64.wrap (q : Int) = (q : Int) := by rw [IntKind.wrap_u64]; omega
  have hqm : q < 18446744073709551616 := by omega
  rw [← hq] at hN hv
  have hN' := Lib.hid hN
  have hRd := Lib.hid (show RB w.drew g s a l from hR)
  clear hq
  have H2 := Lib.hid h2
  have F2 := Lib.hid f2
  have hvw : IntKind.i64.wrap (v : Int) = (v : Int) := by rw [IntKind.wrap_i64]; omega
  clear hF hN hR h2 f2 hv
  go_enter Try.func26, Try.ntmps26
  go_wp2_with (go_at_call 27; refine (must_yes _).mono ?_; rintro e w' ⟨rfl, rfl⟩)
  go_region_held3 (fun w' => w'.cell? p1 = some (.pointer (some ⟨g, 0, none⟩)) ∧ w'.cell? p0 = some (.int .i64 (m : Int)) ∧ w'.cell? ⟨g, 0, none⟩ = some (.string s))
    (first | exact ⟨by rw [World.cell?_setCell_other _ _ _ _ (by rintro rfl; exact n21 rfl)]; exact S3.1, by rw [World.cell?_setCell_other _ _ _ _ (by rintro rfl; exact n20 rfl)]; exact S3.2.1, by rw [World.cell?_setCell_other _ _ _ _ (by rintro rfl; exact n2 rfl)]; exact S3.2.2⟩ | exact S3 | exact S2 | exact ⟨h1, h0, c0⟩)
    (first
      | (go_at_call 29; refine (number_yes g s a q v c _ l w.drew rfl hRd.out ha hz hqm hN'.out).mono ?_; rintro e w2 ⟨rfl, hO2, hR2⟩; have S2 := show w2.cell? p1 = some (.pointer (some ⟨g, 0, none⟩)) ∧ w2.cell? p0 = some (.int .i64 (m : Int)) ∧ w2.cell? ⟨g, 0, none⟩ = some (.string s) from ⟨hO2.cell n1 h1, hO2.cell n0 h0, hR2.c0⟩)
      | (go_at_call 28; refine (take_ok g s c v l w2 hR2 hz hvc).mono ?_; rintro e w3 ⟨rfl, hO3, hR3⟩; have S3 := show w3.cell? p1 = some (.pointer (some ⟨g, 0, none⟩)) ∧ w3.cell? p0 = some (.int .i64 (m : Int)) ∧ w3.cell? ⟨g, 0, none⟩ = some (.string s) from ⟨hO3.cell n1 S2.1, hO3.cell n0 S2.2.1, hR3.c0⟩; have c23 := hO3.cell n2 (hO2.cell n2 H2.out); have f23 := show w3.frozen? p2 = false from by rw [hO3.frozen n2 (lt_cell (hO2.cell n2 H2.out)), hO2.frozen n2 (lt_cell H2.out)]; exact F2.out))
  have O4 : Oth (fun k => k = g ∨ k = p2.block) w w3 := ((Oth.drawn (show Drawn0 w w.drew from ⟨⟨1, rfl⟩⟩)).trans (hO2.mono (fun i h => .inl (.inl h)))).trans (hO3.mono (fun i h => .inl (.inl h)))
  exact ⟨rfl, .tuple #[], by simp [results, Try.results26, go_sem], rfl, O4.set (.inl (.inr rfl)) _, hR3.set n2 _, World.cell?_setCell_same _ _ _ c23, by rw [World.frozen?_setCell]; exact f23⟩
set_option maxRecDepth 100000 in
set_option maxHeartbeats 4000000 in
theorem text1_lost (p0 p1 p2 : Addr) (g : Nat) (s : ByteArray) (a m : Nat) (v c : Nat) (l : Bool) (x : ByteArray) (w : World) (h0 : w.cell? p0 = some (.int .i64 (m : Int))) (h1 : w.cell? p1 = some (.pointer (some ⟨g, 0, none⟩))) (h2 : w.cell? p2 = some (.string x)) (f2 : w.frozen? p2 = false) (n0 : p0.block ≠ g) (n1 : p1.block ≠ g) (n2 : p2.block ≠ g) (n20 : p2.block ≠ p0.block) (n21 : p2.block ≠ p1.block)
    (hR : RB w g s a l) (ha : a ≤ s.size) (hz : s.size ≤ 140737488351232) (hm : m ≤ 140737488351232) (hN : numF s a (min m s.size) = some (v, c)) (hvc : ¬ c + v ≤ s.size) :
    Calls Try.prog 26 #[.pointer (some p0), .pointer (some p1), .pointer (some p2)] w fun e w' => e = .panicked [lostP] ∧ Oth (fun k => k = g ∨ k = p2.block) w w' ∧ RB w' g s c l ∧ w'.cell? p2 = some (.string x) ∧ w'.frozen? p2 = false := by
  obtain ⟨q, hq⟩ : ∃ q, q = min m s.size := ⟨_, rfl⟩
  have hv := (numF_le ha hN).1
  have hc := (numF_le ha hN).2
  have hR' := Lib.hid hR
  have c0 := hR.c0
  have hif : (if s.size < m then (s.size : Int) else (m : Int)) = (q : Int) := by split <;> omega
  have hmin : IntKind.u64.wrap (q : Int) = (q : Int) := by rw [IntKind.wrap_u64]; omega
  have hqm : q < 18446744073709551616 := by omega
  rw [← hq] at hN hv
  have hN' := Lib.hid hN
  have hRd := Lib.hid (show RB w.drew g s a l from hR)
  clear hq
  have H2 := Lib.hid h2
  have F2 := Lib.hid f2
  have hvw : IntKind.i64.wrap (v : Int) = (v : Int) := by rw [IntKind.wrap_i64]; omega
  clear hN hR h2 f2 hv
  go_enter Try.func26, Try.ntmps26
  go_wp2_with (go_at_call 27; refine (must_yes _).mono ?_; rintro e w' ⟨rfl, rfl⟩)
  refine wp_region_held_drew (S := fun w' => w'.cell? p1 = some (.pointer (some ⟨g, 0, none⟩)) ∧ w'.cell? p0 = some (.int .i64 (m : Int)) ∧ w'.cell? ⟨g, 0, none⟩ = some (.string s)) (by kernel_rfl) ⟨h1, h0, c0⟩ (fun hHeld => ?_)
  refine wpAnyH_take (i := 0) (oi := _) (v := (.pointer (some ⟨g, 0, none⟩))) rfl (by kernel_rfl) (by kernel_rfl) (by kernel_rfl) (fun _ _ _ h => h) (Or.inl ⟨by rfl, ?_⟩) (by assumption) ?_
  · intro w hSw
    try dsimp only at hSw
    go_simp
  try simp only [Act.put, List.setIfInBounds_toArray, List.set_cons_zero, List.set_cons_succ]
  refine wpAnyH_take (i := 1) (oi := _) (v := (.pointer (some ⟨g, 0, none⟩))) rfl (by kernel_rfl) (by kernel_rfl) (by kernel_rfl) (fun _ _ _ h => h) (Or.inl ⟨by rfl, ?_⟩) (by assumption) ?_
  · intro w hSw
    try dsimp only at hSw
    go_simp
  try simp only [Act.put, List.setIfInBounds_toArray, List.set_cons_zero, List.set_cons_succ]
  refine wpAnyH_take (i := 2) (oi := _) (v := (.int .i64 (m : Int))) rfl (by kernel_rfl) (by kernel_rfl) (by kernel_rfl) (fun _ _ _ h => h) (Or.inl ⟨by rfl, ?_⟩) (by assumption) ?_
  · intro w hSw
    try dsimp only at hSw
    go_simp
  try simp only [Act.put, List.setIfInBounds_toArray, List.set_cons_zero, List.set_cons_succ]
  refine wpAnyH_take (i := 3) (oi := _) (v := (.pointer (some ⟨g, 0, none⟩))) rfl (by kernel_rfl) (by kernel_rfl) (by kernel_rfl) (fun _ _ _ h => h) (Or.inl ⟨by rfl, ?_⟩) (by assumption) ?_
  · intro w hSw
    try dsimp only at hSw
    go_simp
  try simp only [Act.put, List.setIfInBounds_toArray, List.set_cons_zero, List.set_cons_succ]
  refine wpAnyH_take (i := 4) (oi := _) (v := (.pointer (some ⟨g, 0, none⟩))) rfl (by kernel_rfl) (by kernel_rfl) (by kernel_rfl) (fun _ _ _ h => h) (Or.inl ⟨by rfl, ?_⟩) (by assumption) ?_
  · intro w hSw
    try dsimp only at hSw
    go_simp
  try simp only [Act.put, List.setIfInBounds_toArray, List.set_cons_zero, List.set_cons_succ]
  refine wpAnyH_take (i := 5) (oi := _) (v := (.pointer (some ⟨g, 0, none⟩))) rfl (by kernel_rfl) (by kernel_rfl) (by kernel_rfl) (fun _ _ _ h => h) (Or.inl ⟨by rfl, ?_⟩) (by assumption) ?_
  · intro w hSw
    try dsimp only at hSw
    go_simp
  try simp only [Act.put, List.setIfInBounds_toArray, List.set_cons_zero, List.set_cons_succ]
  refine wpAnyH_take (i := 6) (oi := _) (v := (.string s)) rfl (by kernel_rfl) (by kernel_rfl) (by kernel_rfl) (fun _ _ _ h => h) (Or.inl ⟨by rfl, ?_⟩) (by assumption) ?_
  · intro w hSw
    try dsimp only at hSw
    go_simp
  try simp only [Act.put, List.setIfInBounds_toArray, List.set_cons_zero, List.set_cons_succ]
  refine wpAnyH_take (i := 7) (oi := _) (v := (.int .i64 (s.size : Int))) rfl (by kernel_rfl) (by kernel_rfl) (by kernel_rfl) (fun _ _ _ h => h) (Or.inl ⟨by rfl, ?_⟩) (by assumption) ?_
  · intro w hSw
    try dsimp only at hSw
    go_simp
  try simp only [Act.put, List.setIfInBounds_toArray, List.set_cons_zero, List.set_cons_succ]
  refine wpAnyH_ready (rs := [8]) (by kernel_rfl) (by simp) ?_
  refine AllReadyH.cons (o := _) rfl (fun K hK => ?_) AllReadyH.nil
  go_simp
  refine hK.out _ _ ⟨h1, h0, c0⟩ (fun hHeld => ?_)
  clear hK K
  try simp only [Act.put, List.setIfInBounds_toArray, List.set_cons_zero, List.set_cons_succ]
  refine wpAnyH_take (i := 9) (oi := _) (v := (.int .u64 (q : Int))) rfl (by kernel_rfl) (by kernel_rfl) (by kernel_rfl) (fun _ _ _ h => h) (Or.inl ⟨by rfl, ?_⟩) (by assumption) ?_
  · intro w hSw
    try dsimp only at hSw
    go_simp
  try simp only [Act.put, List.setIfInBounds_toArray, List.set_cons_zero, List.set_cons_succ]
  refine wpAnyH_ready (rs := [10]) (by kernel_rfl) (by simp) ?_
  refine AllReadyH.cons (o := _) rfl (fun K hK => ?_) AllReadyH.nil
  go_simp
  refine (number_yes g s a q v c _ l w.drew rfl hRd.out ha hz hqm hN'.out).mono ?_
  rintro e w2 ⟨rfl, hO2, hR2⟩
  have S2 := show w2.cell? p1 = some (.pointer (some ⟨g, 0, none⟩)) ∧ w2.cell? p0 = some (.int .i64 (m : Int)) ∧ w2.cell? ⟨g, 0, none⟩ = some (.string s) from ⟨hO2.cell n1 h1, hO2.cell n0 h0, hR2.c0⟩
  go_simp
  refine hK.out _ _ S2 (fun hHeld => ?_)
  clear hK K
  try simp only [Act.put, List.setIfInBounds_toArray, List.set_cons_zero, List.set_cons_succ]
  refine wpAnyH_take (i := 11) (oi := _) (v := (.int .i64 (v : Int))) rfl (by kernel_rfl) (by kernel_rfl) (by kernel_rfl) (fun _ _ _ h => h) (Or.inl ⟨by rfl, ?_⟩) (by assumption) ?_
  · intro w hSw
    try dsimp only at hSw
    go_simp
  try simp only [Act.put, List.setIfInBounds_toArray, List.set_cons_zero, List.set_cons_succ]
  refine wpAnyH_ready (rs := [12]) (by kernel_rfl) (by simp) ?_
  refine AllReadyH.cons (o := _) rfl (fun K hK => ?_) AllReadyH.nil
  go_simp
  refine (take_no g s c v l w2 hR2 (by omega) (by omega) (by omega) hz (by omega)).mono ?_
  rintro e w3 ⟨rfl, hD3⟩
  exact ⟨rfl, rfl, lost_end (x := x) n2 (show Drawn0 w w.drew from ⟨⟨1, rfl⟩⟩) hO2 hD3 hR2 H2.out F2.out⟩
set_option maxRecDepth 100000 in
set_option maxHeartbeats 4000000 in
theorem text1_gone (p0 p1 p2 : Addr) (g : Nat) (s : ByteArray) (a m : Nat) (l : Bool) (x : ByteArray) (w : World) (h0 : w.cell? p0 = some (.int .i64 (m : Int))) (h1 : w.cell? p1 = some (.pointer (some ⟨g, 0, none⟩))) (h2 : w.cell? p2 = some (.string x)) (f2 : w.frozen? p2 = false) (n0 : p0.block ≠ g) (n1 : p1.block ≠ g) (n2 : p2.block ≠ g) (n20 : p2.block ≠ p0.block) (n21 : p2.block ≠ p1.block)
    (hR : RB w g s a l) (ha : a ≤ s.size) (hz : s.size ≤ 140737488351232) (hm : m ≤ 140737488351232) (hN : numF s a (min m s.size) = none) :
    Calls Try.prog 26 #[.pointer (some p0), .pointer (some p1), .pointer (some p2)] w fun e w' => e = .panicked [lostP] ∧ Oth (fun k => k = g ∨ k = p2.block) w w' ∧ (∃ c : Nat, RB w' g s c l) ∧ w'.cell? p2 = some (.string x) ∧ w'.frozen? p2 = false := by
  obtain ⟨q, hq⟩ : ∃ q, q = min m s.size := ⟨_, rfl⟩
  have hR' := Lib.hid hR
  have c0 := hR.c0
  have hif : (if s.size < m then (s.size : Int) else (m : Int)) = (q : Int) := by split <;> omega
  have hmin : IntKind.u64.wrap (q : Int) = (q : Int) := by rw [IntKind.wrap_u64]; omega
  have hqm : q < 18446744073709551616 := by omega
  rw [← hq] at hN
  have hN' := Lib.hid hN
  have hRd := Lib.hid (show RB w.drew g s a l from hR)
  clear hq
  have H2 := Lib.hid h2
  have F2 := Lib.hid f2
  clear hN hR h2 f2
  go_enter Try.func26, Try.ntmps26
  go_wp2_with (go_at_call 27; refine (must_yes _).mono ?_; rintro e w' ⟨rfl, rfl⟩)
  refine wp_region_held_drew (S := fun w' => w'.cell? p1 = some (.pointer (some ⟨g, 0, none⟩)) ∧ w'.cell? p0 = some (.int .i64 (m : Int)) ∧ w'.cell? ⟨g, 0, none⟩ = some (.string s)) (by kernel_rfl) ⟨h1, h0, c0⟩ (fun hHeld => ?_)
  refine wpAnyH_take (i := 0) (oi := _) (v := (.pointer (some ⟨g, 0, none⟩))) rfl (by kernel_rfl) (by kernel_rfl) (by kernel_rfl) (fun _ _ _ h => h) (Or.inl ⟨by rfl, ?_⟩) (by assumption) ?_
  · intro w hSw
    try dsimp only at hSw
    go_simp
  try simp only [Act.put, List.setIfInBounds_toArray, List.set_cons_zero, List.set_cons_succ]
  refine wpAnyH_take (i := 1) (oi := _) (v := (.pointer (some ⟨g, 0, none⟩))) rfl (by kernel_rfl) (by kernel_rfl) (by kernel_rfl) (fun _ _ _ h => h) (Or.inl ⟨by rfl, ?_⟩) (by assumption) ?_
  · intro w hSw
    try dsimp only at hSw
    go_simp
  try simp only [Act.put, List.setIfInBounds_toArray, List.set_cons_zero, List.set_cons_succ]
  refine wpAnyH_take (i := 2) (oi := _) (v := (.int .i64 (m : Int))) rfl (by kernel_rfl) (by kernel_rfl) (by kernel_rfl) (fun _ _ _ h => h) (Or.inl ⟨by rfl, ?_⟩) (by assumption) ?_
  · intro w hSw
    try dsimp only at hSw
    go_simp
  try simp only [Act.put, List.setIfInBounds_toArray, List.set_cons_zero, List.set_cons_succ]
  refine wpAnyH_take (i := 3) (oi := _) (v := (.pointer (some ⟨g, 0, none⟩))) rfl (by kernel_rfl) (by kernel_rfl) (by kernel_rfl) (fun _ _ _ h => h) (Or.inl ⟨by rfl, ?_⟩) (by assumption) ?_
  · intro w hSw
    try dsimp only at hSw
    go_simp
  try simp only [Act.put, List.setIfInBounds_toArray, List.set_cons_zero, List.set_cons_succ]
  refine wpAnyH_take (i := 4) (oi := _) (v := (.pointer (some ⟨g, 0, none⟩))) rfl (by kernel_rfl) (by kernel_rfl) (by kernel_rfl) (fun _ _ _ h => h) (Or.inl ⟨by rfl, ?_⟩) (by assumption) ?_
  · intro w hSw
    try dsimp only at hSw
    go_simp
  try simp only [Act.put, List.setIfInBounds_toArray, List.set_cons_zero, List.set_cons_succ]
  refine wpAnyH_take (i := 5) (oi := _) (v := (.pointer (some ⟨g, 0, none⟩))) rfl (by kernel_rfl) (by kernel_rfl) (by kernel_rfl) (fun _ _ _ h => h) (Or.inl ⟨by rfl, ?_⟩) (by assumption) ?_
  · intro w hSw
    try dsimp only at hSw
    go_simp
  try simp only [Act.put, List.setIfInBounds_toArray, List.set_cons_zero, List.set_cons_succ]
  refine wpAnyH_take (i := 6) (oi := _) (v := (.string s)) rfl (by kernel_rfl) (by kernel_rfl) (by kernel_rfl) (fun _ _ _ h => h) (Or.inl ⟨by rfl, ?_⟩) (by assumption) ?_
  · intro w hSw
    try dsimp only at hSw
    go_simp
  try simp only [Act.put, List.setIfInBounds_toArray, List.set_cons_zero, List.set_cons_succ]
  refine wpAnyH_take (i := 7) (oi := _) (v := (.int .i64 (s.size : Int))) rfl (by kernel_rfl) (by kernel_rfl) (by kernel_rfl) (fun _ _ _ h => h) (Or.inl ⟨by rfl, ?_⟩) (by assumption) ?_
  · intro w hSw
    try dsimp only at hSw
    go_simp
  try simp only [Act.put, List.setIfInBounds_toArray, List.set_cons_zero, List.set_cons_succ]
  refine wpAnyH_ready (rs := [8]) (by kernel_rfl) (by simp) ?_
  refine AllReadyH.cons (o := _) rfl (fun K hK => ?_) AllReadyH.nil
  go_simp
  refine hK.out _ _ ⟨h1, h0, c0⟩ (fun hHeld => ?_)
  clear hK K
  try simp only [Act.put, List.setIfInBounds_toArray, List.set_cons_zero, List.set_cons_succ]
  refine wpAnyH_take (i := 9) (oi := _) (v := (.int .u64 (q : Int))) rfl (by kernel_rfl) (by kernel_rfl) (by kernel_rfl) (fun _ _ _ h => h) (Or.inl ⟨by rfl, ?_⟩) (by assumption) ?_
  · intro w hSw
    try dsimp only at hSw
    go_simp
  try simp only [Act.put, List.setIfInBounds_toArray, List.set_cons_zero, List.set_cons_succ]
  refine wpAnyH_ready (rs := [10]) (by kernel_rfl) (by simp) ?_
  refine AllReadyH.cons (o := _) rfl (fun K hK => ?_) AllReadyH.nil
  go_simp
  refine (number_no g s a q _ l w.drew rfl hRd.out ha hz hqm hN'.out).mono ?_
  rintro e w2 ⟨rfl, hO2, c, hR2⟩
  have hE := lost_end (x := x) n2 (show Drawn0 w w.drew from ⟨⟨1, rfl⟩⟩) hO2 (Drawn0.refl _) hR2 H2.out F2.out
  exact ⟨rfl, rfl, hE.1, ⟨c, hE.2.1⟩, hE.2.2⟩
theorem text1_no (p0 p1 p2 : Addr) (g : Nat) (s : ByteArray) (a m : Nat) (l : Bool) (x : ByteArray) (w : World) (h0 : w.cell? p0 = some (.int .i64 (m : Int))) (h1 : w.cell? p1 = some (.pointer (some ⟨g, 0, none⟩))) (h2 : w.cell? p2 = some (.string x)) (f2 : w.frozen? p2 = false) (n0 : p0.block ≠ g) (n1 : p1.block ≠ g) (n2 : p2.block ≠ g) (n20 : p2.block ≠ p0.block) (n21 : p2.block ≠ p1.block)
    (hR : RB w g s a l) (ha : a ≤ s.size) (hz : s.size ≤ 140737488351232) (hm : m ≤ 140737488351232) (hF : textF s a m = none) :
    Calls Try.prog 26 #[.pointer (some p0), .pointer (some p1), .pointer (some p2)] w fun e w' => e = .panicked [lostP] ∧ Oth (fun k => k = g ∨ k = p2.block) w w' ∧ (∃ c : Nat, RB w' g s c l) ∧ w'.cell? p2 = some (.string x) ∧ w'.frozen? p2 = false := by
  cases hN : numF s a (min m s.size) with
  | none => exact text1_gone p0 p1 p2 g s a m l x w h0 h1 h2 f2 n0 n1 n2 n20 n21 hR ha hz hm hN
  | some r =>
    obtain ⟨v, c⟩ := r
    have hvc : ¬ c + v ≤ s.size := by
      intro h
      unfold textF at hF
      rw [hN, Option.bind_some, if_pos h] at hF
      cases hF
    refine (text1_lost p0 p1 p2 g s a m v c l x w h0 h1 h2 f2 n0 n1 n2 n20 n21 hR ha hz hm hN hvc).mono ?_
    rintro e w' ⟨rfl, hO, hR, hc⟩
    exact ⟨rfl, hO, ⟨c, hR⟩, hc⟩
end Go.Proofs.Ytjmcdnhbiamokaa
