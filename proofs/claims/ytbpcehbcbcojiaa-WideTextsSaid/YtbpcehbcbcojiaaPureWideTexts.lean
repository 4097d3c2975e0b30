import Derived.Test.YtbpcehbcbcojiaaGx5
import Derived.Test.YtbpcehbcbcojiaaPureD
import Derived.Test.YtbpcehbcbcojiaaPureB
namespace Go.Proofs.Ytbpcehbcbcojiaa.Pure
open Go.RowKit Go.Proofs.YtbpcehbcbcojiaaW.PrintWords Go.Proofs.YtbpcehbcbcojiaaW.PrintLast Go.Proofs.YtbpcehbcbcojiaaW.PrintMore Dec
set_option linter.unusedVariables false
theorem str_app (a : List Int) (b : List Nat) : strOfNums a ++ str b = strOfNums (a ++ b.map fun n : Nat => (n : Int)) := by
 unfold str
 apply ByteArray.ext
 apply Array.ext'
 rw [ByteArray.data_append, Array.toList_append, strOfNums_data, strOfNums_data, strOfNums_data, List.map_append]
theorem divT (n : Nat) (h : n < M128) (k : Nat) (hk : 128 < k) : E.samphireref01_Div.f k (hi n) (lo n) 0 10 = some (hi (n / 10), lo (n / 10), hi (n % 10), lo (n % 10), true) := by
 have := divD_f n 10 h (by decide) k hk
 rw [quo_pos n 10 (by decide)] at this
 exact this
theorem textD_loop (n : Nat) : ∀ (out : List Nat) (k : Nat), n < M128 → (digs n).length + 200 < k → out.length + (digs n).length ≤ 1000 →
  G.samphireref01_Text.l0 k (str out) (hi n) (lo n) = some (str (text n ++ out)) := by
 induction n using digs.induct with
 | case1 n h =>
  intro out k hn hk hl
  obtain ⟨k, rfl⟩ : ∃ j, k = j + 1 := ⟨k - 1, by omega⟩
  rw [G.samphireref01_Text.l0]
  refine D.bnd (divT n hn k (by omega)) (D.bnd rfl ?_)
  rw [str_app]
  rw [digs_lt h] at hl
  refine D.ift (by rw [strOfNums_size, str_size]; simp at hl ⊢; omega) ?_
  rw [show n / 10 = 0 by omega]
  refine D.ift (show (((HI 0 : Nat) : Int) == 0 && ((LO 0 : Nat) : Int) == 0) = true by decide) ?_
  rw [show text n = [48 + n] by unfold text; rw [digs_lt h]; rfl]
  unfold str
  congr 2
  rw [List.map_append, List.map_cons, List.map_nil]
  congr 2
  have : lo (n % 10) = (n : Int) := by unfold lo LO; omega
  dsimp only
  rw [this, D.wrapE]; omega
 | case2 n h ih =>
  intro out k hn hk hl
  rw [digs_ge h] at hk hl
  rw [List.length_append] at hk hl
  simp only [List.length_cons, List.length_nil] at hk hl
  obtain ⟨k, rfl⟩ : ∃ j, k = j + 1 := ⟨k - 1, by omega⟩
  rw [G.samphireref01_Text.l0]
  refine D.bnd (divT n hn k (by omega)) (D.bnd rfl ?_)
  rw [str_app]
  refine D.ift (by rw [strOfNums_size, str_size]; simp; omega) ?_
  refine D.iff_ ?_ ?_
  ·
   have : n / 10 ≠ 0 := by omega
   intro hc
   simp only [Bool.and_eq_true, beq_iff_eq] at hc
   apply this
   have h1 := V_HILO (n / 10)
   unfold hi lo at hc
   rw [show HI (n / 10) = 0 by omega, show LO (n / 10) = 0 by omega] at h1
   rw [← h1]; rfl
  ·
   have IH := ih ((48 + n % 10) :: out) k (Nat.lt_of_le_of_lt (Nat.div_le_self _ _) hn) (by omega) (by simp; omega)
   have e : text n ++ out = text (n / 10) ++ (48 + n % 10) :: out := by
    unfold text; rw [digs_ge h, List.map_append, List.append_assoc]; rfl
   rw [e, ← IH]
   congr 1
   unfold str
   rw [List.map_cons]
   congr 1
   rw [List.singleton_append]
   congr 1
   have : lo (n % 10) = ((n % 10 : Nat) : Int) := by unfold lo LO; omega
   dsimp only
   rw [this, D.wrapE]; omega
theorem textD_f (n : Nat) (h : n < M128) (k : Nat) (hk : 300 < k) : G.samphireref01_Text.f k (hi n) (lo n) = some (str (text n)) := by
 have := textD_loop n [] k h (by have := digs_len39 h; omega) (by have := digs_len39 h; simp; omega)
 rw [List.append_nil] at this
 exact this
theorem readD_loop (s : ByteArray) (hs : s.size < 1000) (m : Nat) : ∀ (i k n : Nat), i + m = s.size → 2 * m < k → n < M128 →
  G.samphireref01_Read.l0 k s (i : Int) (hi n) (lo n) = some (told (readL ((bs s).drop i) n)) := by
 induction m with
 | zero =>
  intro i k n hi' hk hn
  obtain ⟨k, rfl⟩ : ∃ j, k = j + 1 := ⟨k - 1, by omega⟩
  rw [G.samphireref01_Read.l0]
  rw [if_neg (by omega), List.drop_of_length_le (by rw [bs_len]; omega)]
  rfl
 | succ m ih =>
  intro i k n hi' hk hn
  obtain ⟨k, rfl⟩ : ∃ j, k = j + 1 + 1 := ⟨k - 2, by omega⟩
  have hlt : i < s.size := by omega
  have hb := bt_bs s i hlt
  have hd : (bs s).drop i = (bs s).getD i 0 :: (bs s).drop (i + 1) := by
   rw [List.drop_eq_getElem_cons (by rw [bs_len]; exact hlt)]
   congr 1
   rw [List.getD_eq_getElem?_getD, List.getElem?_eq_getElem (by rw [bs_len]; exact hlt)]; rfl
  have hc : (bs s).getD i 0 < 256 := by
   rw [List.getD_eq_getElem?_getD, List.getElem?_eq_getElem (by rw [bs_len]; exact hlt)]
   exact bs_lt s _ (List.getElem_mem _)
  have ew : wrap64 ((i : Int) + 1) = ((i + 1 : Nat) : Int) := by unfold wrap64; omega
  rw [hd]
  generalize (bs s).getD i 0 = c at hb hc
  rw [G.samphireref01_Read.l0]
  refine D.ift (by omega) (D.ift (by omega) ?_)
  rw [hb]
  unfold readL
  by_cases h1 : c < 48
  ·
   refine D.ift (by omega) ?_
   rw [if_pos (Or.inl h1), G.samphireref01_Read.j2]
   exact D.ift rfl rfl
  ·
   refine D.iff_ (by omega) ?_
   by_cases h2 : 57 < c
   ·
    rw [if_pos (Or.inr h2), decide_eq_true (show (c : Int) > 57 by omega), G.samphireref01_Read.j2]
    exact D.ift rfl rfl
   ·
    rw [if_neg (show ¬ (c < 48 ∨ 57 < c) by omega), decide_eq_false (show ¬ (c : Int) > 57 by omega), G.samphireref01_Read.j2]
    refine D.iff_ (by decide) ?_
    rw [hb]
    have e8 : ((c : Int) - 48) % 256 = ((c - 48 : Nat) : Int) := by omega
    rw [e8]
    have hm : Q.samphireref01_Mul.f (hi n) (lo n) 0 10 = some (sized (10 * n)) := by
     unfold Q.samphireref01_Mul.f
     rw [if_pos ⟨(rng hn).1, (rng hn).2, by decide, by decide⟩, val_HILO, show val 0 10 = 10 from rfl, Nat.mul_comm]
    refine D.bnd hm ?_
    refine D.ift (by omega) (D.ift (by omega) ?_)
    obtain ⟨c0, c1⟩ := small (n := c - 48) (by unfold W64; omega)
    by_cases h3 : 10 * n + (c - 48) < M128
    ·
     rw [if_pos h3, sized_lt (show 10 * n < M128 by omega)]
     dsimp only
     have ha := addD_f (10 * n) (c - 48) (by omega) (by omega)
     rw [show ((HI (c - 48) : Nat) : Int) = 0 from c0, show ((LO (c - 48) : Nat) : Int) = ((c - 48 : Nat) : Int) from c1, sized_lt h3] at ha
     refine D.bnd ha (D.ift rfl (D.ift rfl ?_))
     rw [ew]
     exact ih (i + 1) k _ (by omega) (by omega) h3
    ·
     rw [if_neg h3]
     by_cases h4 : 10 * n < M128
     ·
      rw [sized_lt h4]
      dsimp only
      have ha := addD_f (10 * n) (c - 48) (by omega) (by unfold M128; omega)
      rw [show ((HI (c - 48) : Nat) : Int) = 0 from c0, show ((LO (c - 48) : Nat) : Int) = ((c - 48 : Nat) : Int) from c1, sized_ge h3] at ha
      exact D.bnd ha (D.ift rfl (D.iff_ (by decide) rfl))
     ·
      rw [sized_ge h4]
      dsimp only
      have ha := addD_f 0 (c - 48) (by decide) (by unfold M128; omega)
      rw [show ((HI (c - 48) : Nat) : Int) = 0 from c0, show ((LO (c - 48) : Nat) : Int) = ((c - 48 : Nat) : Int) from c1, Nat.zero_add, sized_lt (show c - 48 < M128 by unfold M128; omega)] at ha
      exact D.bnd ha (D.iff_ (by decide) rfl)
theorem readL_ge (l : List Nat) : ∀ n m, readL l n = some m → n * 10 ^ l.length ≤ m := by
 induction l with
 | nil => intro n m h; obtain rfl := Option.some.inj h; simp
 | cons c l ih =>
  intro n m h
  unfold readL at h
  split at h
  ·
   cases h
  ·
   split at h
   ·
    have := ih _ _ h
    refine Nat.le_trans ?_ this
    rw [List.length_cons, Nat.pow_succ, show n * (10 ^ l.length * 10) = (10 * n) * 10 ^ l.length by ac_rfl]
    exact Nat.mul_le_mul_right _ (by omega)
   ·
    cases h
theorem readL_lt (l : List Nat) : ∀ n m, n < M128 → readL l n = some m → m < M128 := by
 induction l with
 | nil => intro n m hn h; obtain rfl := Option.some.inj h; exact hn
 | cons c l ih =>
  intro n m hn h
  unfold readL at h
  split at h
  ·
   cases h
  ·
   split at h
   ·
    exact ih _ _ (by assumption) h
   ·
    cases h
theorem read_long (l : List Nat) (h : 39 < l.length) : read l = none := by
 cases l with
 | nil => simp at h
 | cons c l =>
  unfold read
  by_cases h48 : c = 48
  ·
   rw [if_pos (Or.inr ⟨by rw [h48]; rfl, by omega⟩)]
  ·
   rw [if_neg (by rintro (g | ⟨g, _⟩); cases g; exact h48 (Option.some.inj g))]
   cases hr : readL (c :: l) 0 with
   | none => rfl
   | some m =>
    exfalso
    have hlt := readL_lt _ _ _ (by decide) hr
    unfold readL at hr
    split at hr
    ·
     cases hr
    ·
     rename_i hd
     split at hr
     ·
      have hge := readL_ge _ _ _ hr
      have h1 : 1 ≤ 10 * 0 + (c - 48) := by omega
      have h2 : 10 ^ 39 ≤ 10 ^ l.length := Nat.pow_le_pow_right (by decide) (by simp at h; omega)
      have h3 : 10 ^ 39 ≤ (10 * 0 + (c - 48)) * 10 ^ l.length := Nat.le_trans h2 (Nat.le_mul_of_pos_left _ h1)
      have h4 : M128 ≤ 10 ^ 39 := by decide
      omega
     ·
      cases hr
theorem readD_f (s : ByteArray) (hs : s.size ≤ 60) (k : Nat) (hk : 300 < k) : G.samphireref01_Read.f k s = some (told (read (bs s))) := by
 obtain ⟨k, rfl⟩ : ∃ j, k = j + 1 := ⟨k - 1, by omega⟩
 have out : ∀ b : Bool, b = true → G.samphireref01_Read.j0 (k + 1) s b 0 0 = some (0, 0, false) := by
  rintro _ rfl; rw [G.samphireref01_Read.j0]; exact D.ift rfl rfl
 have inn : ∀ b : Bool, b = false → G.samphireref01_Read.j0 (k + 1) s b 0 0 = some (told (readL (bs s) 0)) := by
  rintro _ rfl
  rw [G.samphireref01_Read.j0]
  refine D.iff_ (by decide) ?_
  have := readD_loop s (by omega) s.size 0 k 0 (by omega) (by omega) (by decide)
  rw [List.drop_zero] at this
  exact this
 unfold G.samphireref01_Read.f
 by_cases h0 : s.size = 0
 ·
  refine D.ift (by omega) ((out _ rfl).trans ?_)
  unfold read
  rw [if_pos (Or.inl (List.eq_nil_of_length_eq_zero (by rw [bs_len]; exact h0)))]
  rfl
 ·
  refine D.iff_ (by omega) ?_
  by_cases h39 : 39 < s.size
  ·
   refine D.ift (by omega) ((out _ rfl).trans ?_)
   rw [read_long _ (by rw [bs_len]; exact h39)]
   rfl
  ·
   refine D.iff_ (by omega) (D.ift (by omega) ?_)
   have hb := bt_bs s 0 (by omega)
   rw [show ((0 : Nat) : Int) = 0 from rfl] at hb
   have hne : bs s ≠ [] := fun h => h0 (by rw [← bs_len, h]; rfl)
   have hh : (bs s).head? = some ((bs s).getD 0 0) := by
    cases hx : bs s with
    | nil => exact absurd hx hne
    | cons a l => rfl
   unfold read
   rw [hb, hh]
   by_cases h48 : (bs s).getD 0 0 = 48
   ·
    refine D.ift (by omega) ?_
    by_cases h1 : 1 < s.size
    ·
     rw [if_pos (Or.inr ⟨by rw [h48], by rw [bs_len]; exact h1⟩)]
     exact out _ (decide_eq_true (by omega))
    ·
     rw [if_neg (by rintro (h | ⟨_, h⟩); exact hne h; rw [bs_len] at h; exact h1 h)]
     exact inn _ (decide_eq_false (by omega))
   ·
    refine D.iff_ (by omega) ?_
    rw [if_neg (by rintro (h | ⟨h, _⟩); exact hne h; exact h48 (Option.some.inj h))]
    exact inn _ rfl
theorem WideTexts (a0 a1 : Int) (s : ByteArray) (h0 : (Lit.int .u64 a0).wf = true) (h1 : (Lit.int .u64 a1).wf = true) : G.samphirelaw01_WideTexts.f 400 a0 a1 s = some true := by
 obtain ⟨n, hn, rfl, rfl⟩ := arg h0 h1
 unfold G.samphirelaw01_WideTexts.f
 by_cases h60 : 60 < s.size
 ·
  refine D.ift (by omega) ?_
  exact D.bnd awake rfl
 ·
  refine D.iff_ (by omega) ?_
  have hr : Q.wide_Read.f s = some (told (read (bs s))) := by unfold Q.wide_Read.f; rw [if_pos (by omega)]
  refine D.bnd hr (D.bnd (readD_f s (by omega) 400 (by decide)) (D.ift (by simp) (D.ift (by simp) ?_)))
  refine D.bnd (text_f' n hn) (D.bnd (textD_f n hn 400 (by decide)) (D.ift rfl ?_))
  exact D.bnd awake rfl
theorem wideTexts_walk (a0 a1 : Int) (s : ByteArray) (W : World) (h0 : (Lit.int .u64 a0).wf = true) (h1 : (Lit.int .u64 a1).wf = true) (h2 : s.size ≤ 140737488351232) :
  Calls Try.prog 3 #[.agg #[.int .u64 a0, .int .u64 a1], .string s] W fun e w' => e = .returned (.bool true) ∧ Below W.heap.size W w' :=
 G.samphirelaw01_WideTexts.calls 400 a0 a1 s true W (WideTexts a0 a1 s h0 h1)
end Go.Proofs.Ytbpcehbcbcojiaa.Pure
