/- The mathematics of CRC-32C alone: one halving is linear and loses nothing; the sum of a text is a halving of its number. -/
namespace CrcPure

def pl : Nat := 2197175160
/-- one halving -/
def st (n : Nat) : Nat := if n % 2 = 1 then n / 2 ^^^ pl else n / 2
def stn : Nat → Nat → Nat
  | 0, n => n
  | k + 1, n => stn k (st n)

theorem xor_mod2 (a b : Nat) : (a ^^^ b) % 2 = (a % 2 + b % 2) % 2 := by
  have h := Nat.testBit_xor a b 0
  simp only [Nat.testBit_zero] at h
  rcases Nat.mod_two_eq_zero_or_one a with ha | ha <;> rcases Nat.mod_two_eq_zero_or_one b with hb | hb <;> rcases Nat.mod_two_eq_zero_or_one (a ^^^ b) with hc | hc <;> simp [ha, hb, hc] at h ⊢

theorem xor_pow (a b k : Nat) : (a ^^^ b) * 2 ^ k = a * 2 ^ k ^^^ b * 2 ^ k := by
  rw [← Nat.shiftLeft_eq, ← Nat.shiftLeft_eq, ← Nat.shiftLeft_eq, Nat.shiftLeft_xor_distrib]

theorem xor_div2 (a b : Nat) : (a ^^^ b) / 2 = a / 2 ^^^ b / 2 := Nat.xor_div_two

theorem st_xor (a b : Nat) : st (a ^^^ b) = st a ^^^ st b := by
  unfold st
  rw [xor_mod2, xor_div2]
  rcases Nat.mod_two_eq_zero_or_one a with ha | ha <;> rcases Nat.mod_two_eq_zero_or_one b with hb | hb <;> simp only [ha, hb]
  · simp
  · simp; rw [Nat.xor_assoc]
  · simp; rw [Nat.xor_assoc, Nat.xor_assoc, Nat.xor_comm pl]
  · simp
    rw [show a / 2 ^^^ pl ^^^ (b / 2 ^^^ pl) = a / 2 ^^^ b / 2 ^^^ (pl ^^^ pl) by ac_rfl]; simp

theorem stn_xor (k a b : Nat) : stn k (a ^^^ b) = stn k a ^^^ stn k b := by
  induction k generalizing a b with
  | zero => rfl
  | succ k ih => simp only [stn]; rw [st_xor, ih]

theorem stn_zero (k : Nat) : stn k 0 = 0 := by
  induction k with
  | zero => rfl
  | succ k ih => simp only [stn]; exact ih

theorem stn_add (j k n : Nat) : stn (j + k) n = stn k (stn j n) := by
  induction j generalizing n with
  | zero => simp [stn]
  | succ j ih => rw [Nat.add_right_comm]; simp only [stn]; exact ih _

theorem stn_pow (k n : Nat) : stn k (n * 2 ^ k) = n := by
  induction k generalizing n with
  | zero => simp [stn]
  | succ k ih =>
    simp only [stn]
    have : st (n * 2 ^ (k + 1)) = n * 2 ^ k := by
      unfold st
      rw [Nat.pow_succ, ← Nat.mul_assoc]
      rw [if_neg (by omega)]; omega
    rw [this, ih]

theorem st_lt {n : Nat} (h : n < 4294967296) : st n < 4294967296 := by
  unfold st
  split
  · exact Nat.xor_lt_two_pow (n := 32) (by omega) (by decide)
  · omega

theorem stn_lt {k n : Nat} (h : n < 4294967296) : stn k n < 4294967296 := by
  induction k generalizing n with
  | zero => exact h
  | succ k ih => exact ih (st_lt h)

theorem st_ne {n : Nat} (h : n < 4294967296) (h0 : n ≠ 0) : st n ≠ 0 := by
  unfold st
  split
  · intro e
    have e2 : n / 2 = pl := by
      have : (n / 2 ^^^ pl) ^^^ pl = pl := by rw [e]; simp
      rw [Nat.xor_assoc, Nat.xor_self, Nat.xor_zero] at this; exact this
    unfold pl at e2; omega
  · omega

theorem stn_ne {k n : Nat} (h : n < 4294967296) (h0 : n ≠ 0) : stn k n ≠ 0 := by
  induction k generalizing n with
  | zero => exact h0
  | succ k ih => exact ih (st_lt h) (st_ne h h0)

/-- the table -/
def tab (i : Nat) : Nat := stn 8 i
/-- a byte more, by the table -/
def upd (n c : Nat) : Nat := n / 256 ^^^ tab (n % 256 ^^^ c)

theorem split256 (n : Nat) : n = n / 256 * 2 ^ 8 ^^^ n % 256 := by
  have h : n / 256 * 2 ^ 8 ||| n % 256 = n / 256 * 2 ^ 8 + n % 256 := by
    have := Nat.two_pow_add_eq_or_of_lt (i := 8) (b := n % 256) (by omega) (n / 256)
    rw [Nat.mul_comm] at this; exact this.symm
  have h2 : n / 256 * 2 ^ 8 &&& n % 256 = 0 := by
    apply Nat.eq_of_testBit_eq; intro i
    rw [Nat.testBit_and, Nat.testBit_mul_two_pow, Nat.zero_testBit]
    by_cases hi : 8 ≤ i
    · have : (n % 256).testBit i = false := Nat.testBit_lt_two_pow (Nat.lt_of_lt_of_le (by omega) (Nat.pow_le_pow_right (by omega) hi))
      simp [this]
    · simp [hi]
  have h3 : ∀ i, (n / 256 * 2 ^ 8 ^^^ n % 256).testBit i = (n / 256 * 2 ^ 8 ||| n % 256).testBit i := by
    intro i
    have e := congrArg (fun x => x.testBit i) h2
    simp only [Nat.testBit_and, Nat.zero_testBit] at e
    rw [Nat.testBit_xor, Nat.testBit_or]
    revert e; cases (n / 256 * 2 ^ 8).testBit i <;> cases (n % 256).testBit i <;> simp
  rw [Nat.eq_of_testBit_eq h3, h]; omega

theorem upd_eq (n c : Nat) : upd n c = stn 8 (n ^^^ c) := by
  unfold upd tab
  have : n ^^^ c = n / 256 * 2 ^ 8 ^^^ (n % 256 ^^^ c) := by rw [← Nat.xor_assoc, ← split256]
  rw [this, stn_xor 8 (n / 256 * 2 ^ 8), stn_pow]

/-- what a text makes of a state -/
def run (n : Nat) (l : List Nat) : Nat := l.foldl (fun n c => stn 8 (n ^^^ c)) n
/-- the number of a text, the lowest byte first -/
def val : List Nat → Nat
  | [] => 0
  | c :: l => c + 256 * val l
def top : Nat := 4294967295
/-- the sum of a text, behind one of the sum s -/
def more (s : Nat) (l : List Nat) : Nat := top - run (top - s) l

theorem add_xor (c m : Nat) (h : c < 256) : c + 256 * m = c ^^^ m * 2 ^ 8 := by
  have := split256 (c + 256 * m)
  rw [show (c + 256 * m) / 256 = m by omega, show (c + 256 * m) % 256 = c by omega] at this
  rw [this, Nat.xor_comm]

theorem run_val (n : Nat) (l : List Nat) (h : ∀ c ∈ l, c < 256) : run n l = stn (8 * l.length) (n ^^^ val l) := by
  induction l generalizing n with
  | nil => simp [run, val, stn]
  | cons c l ih =>
    have hc : c < 256 := h c (by simp)
    have : run n (c :: l) = run (stn 8 (n ^^^ c)) l := rfl
    rw [this, ih _ (fun x hx => h x (by simp [hx]))]
    simp only [val, List.length_cons]
    rw [show 8 * (l.length + 1) = 8 + 8 * l.length by omega, stn_add, add_xor c _ hc, ← Nat.xor_assoc, stn_xor 8 (n ^^^ c), stn_pow]

theorem run_append (n : Nat) (l m : List Nat) : run n (l ++ m) = run (run n l) m := by simp [run, List.foldl_append]

theorem run_lt {n : Nat} {l : List Nat} (hn : n < 4294967296) (h : ∀ c ∈ l, c < 256) : run n l < 4294967296 := by
  induction l generalizing n with
  | nil => exact hn
  | cons c l ih =>
    have hc : c < 256 := h c (by simp)
    exact ih (stn_lt (Nat.xor_lt_two_pow (n := 32) hn (by omega))) (fun x hx => h x (by simp [hx]))

theorem top_sub {n : Nat} (h : n < 4294967296) : top - n = top ^^^ n := by
  have h1 : n ^^^ top < 4294967296 := Nat.xor_lt_two_pow (n := 32) h (by decide)
  have := Nat.testBit_two_pow_sub_succ (x := n) (n := 32) h
  apply Nat.eq_of_testBit_eq
  intro i
  rw [show top - n = 2 ^ 32 - (n + 1) by unfold top; omega, this i, Nat.testBit_xor]
  by_cases hi : i < 32
  · have : top.testBit i = true := by
      rw [show top = 2 ^ 32 - 1 by rfl, Nat.testBit_two_pow_sub_one]; simp [hi]
    simp [hi, this]
  · have a : top.testBit i = false := by
      rw [show top = 2 ^ 32 - 1 by rfl, Nat.testBit_two_pow_sub_one]; simp [hi]
    have b : n.testBit i = false := Nat.testBit_lt_two_pow (Nat.lt_of_lt_of_le h (Nat.pow_le_pow_right (n := 2) (i := 32) (by omega) (by omega)))
    simp [hi, a, b]

theorem more_lt (s : Nat) (l : List Nat) : more s l < 4294967296 := by unfold more top; omega

theorem more_eq {s : Nat} {l : List Nat} (hs : s < 4294967296) (h : ∀ c ∈ l, c < 256) : more s l = top ^^^ stn (8 * l.length) (top ^^^ s ^^^ val l) := by
  unfold more
  have : top - s < 4294967296 := by unfold top; omega
  rw [top_sub (run_lt this h), run_val _ _ h, top_sub hs]

theorem more_append {s : Nat} {l m : List Nat} (hs : s < 4294967296) (hl : ∀ c ∈ l, c < 256) : more (more s l) m = more s (l ++ m) := by
  have h1 : top - s < 4294967296 := by unfold top; omega
  have := run_lt h1 hl
  unfold more
  rw [run_append, show top - (top - run (top - s) l) = run (top - s) l by unfold top at *; omega]

theorem xor_cancel {a b c : Nat} (h : a ^^^ b = a ^^^ c) : b = c := by
  have := congrArg (a ^^^ ·) h
  simpa [← Nat.xor_assoc] using this

/-- two texts of one length that have one sum, behind the same: the difference of their numbers is lost in as many halvings -/
theorem more_same {s : Nat} {l m : List Nat} (hs : s < 4294967296) (hl : ∀ c ∈ l, c < 256) (hm : ∀ c ∈ m, c < 256) (hlen : m.length = l.length) :
    more s l = more s m ↔ stn (8 * l.length) (val l ^^^ val m) = 0 := by
  rw [more_eq hs hl, more_eq hs hm, hlen]
  constructor
  · intro h
    have := xor_cancel h
    rw [stn_xor, stn_xor (8 * l.length) _ (val m)] at this
    have := xor_cancel this
    rw [stn_xor, this, Nat.xor_self]
  · intro h
    rw [stn_xor] at h
    have : stn (8 * l.length) (val l) = stn (8 * l.length) (val m) := by
      have h2 := congrArg (· ^^^ stn (8 * l.length) (val m)) h
      simpa [Nat.xor_assoc] using h2
    rw [stn_xor, this, ← stn_xor]

/-- bits turned within 32 that follow one another: another sum -/
theorem burst {s : Nat} {l m : List Nat} {f b : Nat} (hs : s < 4294967296) (hl : ∀ c ∈ l, c < 256) (hm : ∀ c ∈ m, c < 256) (hlen : m.length = l.length)
    (hf : f ≤ 8 * l.length) (hb : b < 4294967296) (h0 : b ≠ 0) (hv : val m = val l ^^^ b * 2 ^ f) : more s m ≠ more s l := by
  intro e
  have := (more_same hs hl hm hlen).1 e.symm
  rw [hv, ← Nat.xor_assoc, Nat.xor_self, Nat.zero_xor, show 8 * l.length = f + (8 * l.length - f) by omega, stn_add, stn_pow] at this
  exact stn_ne hb h0 this

theorem val_append (l m : List Nat) (hl : ∀ c ∈ l, c < 256) : val (l ++ m) = val l ^^^ val m * 2 ^ (8 * l.length) := by
  induction l with
  | nil => simp [val]
  | cons c l ih =>
    have hc : c < 256 := hl c (by simp)
    simp only [List.cons_append, val, List.length_cons]
    rw [ih (fun x hx => hl x (by simp [hx])), add_xor c _ hc, add_xor c _ hc, show 8 * (l.length + 1) = 8 * l.length + 8 by omega, Nat.pow_add, ← Nat.mul_assoc, Nat.xor_assoc, xor_pow]

theorem val_lt (l : List Nat) (hl : ∀ c ∈ l, c < 256) : val l < 2 ^ (8 * l.length) := by
  induction l with
  | nil => simp [val]
  | cons c l ih =>
    have hc : c < 256 := hl c (by simp)
    have := ih (fun x hx => hl x (by simp [hx]))
    simp only [val, List.length_cons]
    rw [show 8 * (l.length + 1) = 8 * l.length + 8 by omega, Nat.pow_add]; omega

theorem val_inj {l m : List Nat} (hl : ∀ c ∈ l, c < 256) (hm : ∀ c ∈ m, c < 256) (hlen : l.length = m.length) (h : val l = val m) : l = m := by
  induction l generalizing m with
  | nil => cases m with
    | nil => rfl
    | cons _ _ => simp at hlen
  | cons c l ih => cases m with
    | nil => simp at hlen
    | cons d m =>
      have hc : c < 256 := hl c (by simp)
      have hd : d < 256 := hm d (by simp)
      simp only [val] at h
      have : c = d := by omega
      subst this
      rw [ih (m := m) (fun x hx => hl x (by simp [hx])) (fun x hx => hm x (by simp [hx])) (by simpa using hlen) (by omega)]

/-- texts that are the same but for four bytes behind -/
theorem last {s : Nat} {l a b : List Nat} (hs : s < 4294967296) (hl : ∀ c ∈ l, c < 256) (ha : ∀ c ∈ a, c < 256) (hb : ∀ c ∈ b, c < 256) (la : a.length = 4) (lb : b.length = 4) :
    more s (l ++ a) = more s (l ++ b) ↔ a = b := by
  constructor
  · intro h
    apply val_inj ha hb (by omega)
    have e := (more_same hs (fun c hc => by rcases List.mem_append.1 hc with h | h; exact hl c h; exact ha c h)
      (fun c hc => by rcases List.mem_append.1 hc with h | h; exact hl c h; exact hb c h) (by simp [la, lb])).1 h
    rw [val_append _ _ hl, val_append _ _ hl] at e
    have e2 : val l ^^^ val a * 2 ^ (8 * l.length) ^^^ (val l ^^^ val b * 2 ^ (8 * l.length)) = (val a ^^^ val b) * 2 ^ (8 * l.length) := by
      rw [xor_pow]
      rw [show val l ^^^ val a * 2 ^ (8 * l.length) ^^^ (val l ^^^ val b * 2 ^ (8 * l.length)) = (val l ^^^ val l) ^^^ (val a * 2 ^ (8 * l.length) ^^^ val b * 2 ^ (8 * l.length)) by ac_rfl]
      simp
    rw [e2, List.length_append, la, show 8 * (l.length + 4) = 8 * l.length + 32 by omega, stn_add, stn_pow] at e
    have xa : val a < 4294967296 := by have := val_lt a ha; rw [la] at this; simpa using this
    have xb : val b < 4294967296 := by have := val_lt b hb; rw [lb] at this; simpa using this
    have xl : val a ^^^ val b < 4294967296 := Nat.xor_lt_two_pow (n := 32) xa xb
    by_cases h0 : val a ^^^ val b = 0
    · have := congrArg (· ^^^ val b) h0
      simpa [Nat.xor_assoc] using this
    · exact absurd e (stn_ne xl h0)
  · intro h; rw [h]

/-- three texts of one length -/
theorem three {a b c d : List Nat} (ha : ∀ x ∈ a, x < 256) (hb : ∀ x ∈ b, x < 256) (hc : ∀ x ∈ c, x < 256) (hd : ∀ x ∈ d, x < 256)
    (lb : b.length = a.length) (lc : c.length = a.length) (ld : d.length = a.length) (hv : val d = val a ^^^ val b ^^^ val c) :
    more 0 d = more 0 a ^^^ more 0 b ^^^ more 0 c := by
  rw [more_eq (by omega) ha, more_eq (by omega) hb, more_eq (by omega) hc, more_eq (by omega) hd, lb, lc, ld, hv]
  simp only [stn_xor]
  generalize stn (8 * a.length) top = t
  generalize stn (8 * a.length) (val a) = x
  generalize stn (8 * a.length) (val b) = y
  generalize stn (8 * a.length) (val c) = z
  generalize stn (8 * a.length) 0 = w
  rw [show top ^^^ (t ^^^ w ^^^ x) ^^^ (top ^^^ (t ^^^ w ^^^ y)) ^^^ (top ^^^ (t ^^^ w ^^^ z)) = (top ^^^ top) ^^^ ((t ^^^ w) ^^^ (t ^^^ w)) ^^^ (top ^^^ (t ^^^ w ^^^ (x ^^^ y ^^^ z))) by ac_rfl]
  simp

theorem val_xor : ∀ {a b : List Nat}, a.length = b.length → (∀ x ∈ a, x < 256) → (∀ x ∈ b, x < 256) → val (List.zipWith (· ^^^ ·) a b) = val a ^^^ val b
  | [], [], _, _, _ => by simp [val]
  | x :: a, y :: b, h, ha, hb => by
    have hx : x < 256 := ha x (by simp)
    have hy : y < 256 := hb y (by simp)
    have hxy : x ^^^ y < 256 := Nat.xor_lt_two_pow (n := 8) hx hy
    simp only [List.zipWith_cons_cons, val]
    rw [val_xor (by simpa using h) (fun z hz => ha z (by simp [hz])) (fun z hz => hb z (by simp [hz])), add_xor _ _ hxy, add_xor _ _ hx, add_xor _ _ hy, xor_pow]
    ac_rfl

/-- a bit turned -/
theorem val_flip (l : List Nat) (hl : ∀ x ∈ l, x < 256) (j i : Nat) (hj : j < l.length) (hi : i < 8) :
    val (l.set j (l[j] ^^^ 2 ^ i)) = val l ^^^ 2 ^ (8 * j + i) := by
  induction l generalizing j with
  | nil => simp at hj
  | cons c l ih =>
    have hc : c < 256 := hl c (by simp)
    cases j with
    | zero =>
      have hxy : c ^^^ 2 ^ i < 256 := Nat.xor_lt_two_pow (n := 8) hc (Nat.pow_lt_pow_right (by omega) hi)
      simp only [List.set_cons_zero, List.getElem_cons_zero, val]
      rw [add_xor _ _ hxy, add_xor _ _ hc, Nat.mul_zero, Nat.zero_add]; ac_rfl
    | succ j =>
      simp only [List.set_cons_succ, List.getElem_cons_succ, val]
      rw [ih (fun z hz => hl z (by simp [hz])) j (by simpa using hj), add_xor _ _ hc, add_xor _ _ hc, xor_pow, ← Nat.pow_add, show 8 * j + i + 8 = 8 * (j + 1) + i by omega, Nat.xor_assoc]

theorem tab_xor (i k : Nat) : tab (i ^^^ k) = tab i ^^^ tab k := stn_xor 8 i k
theorem tab_zero : tab 0 = 0 := stn_zero 8
theorem tab_lt {i : Nat} (h : i < 4294967296) : tab i < 4294967296 := stn_lt h

end CrcPure
