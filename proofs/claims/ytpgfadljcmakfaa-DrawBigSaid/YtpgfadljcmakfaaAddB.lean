/- The document's sum and product of naturals, over lists. -/
import Derived.Test.YtpgfadljcmakfaaBelowNB
import Derived.Test.YtpgfadljcmakfaaBx6
namespace Go.Proofs.Ytpgfadljcmakfaa.DrawB
open Go.RowKit Go.Proofs.Ytpgfadljcmakfaa.Q Go.Proofs.Ytpgfadljcmakfaa.B Go.Proofs.YtpgfadljcmakfaaW.PrintWords Go.Proofs.YtpgfadljcmakfaaW.PrintLast
open Go.Proofs.Ytpgfadljcmakfaa.Limb (I I_length I_cons I_nil I_append I_snoc I_take I_drop I_set I_replicate rd_I val Dig limbs limbs_zero val_limbs limbs_dig limbs_len val_append val_take_succ take_succ_getD val_zeros)
open Go.Proofs.Ytpgfadljcmakfaa.NatB (succ_of inc64)
set_option linter.unusedVariables false
/-- Half a limb. -/
def hf (xs : List Nat) (i : Nat) : Nat := if i % 2 = 0 then xs.getD (i / 2) 0 % 65536 else xs.getD (i / 2) 0 / 65536
def halves (xs : List Nat) (n : Nat) : List Nat := (List.range n).map (hf xs)
theorem halves_len (xs : List Nat) (n : Nat) : (halves xs n).length = n := by simp [halves]
theorem halves_succ (xs : List Nat) (n : Nat) : halves xs (n + 1) = halves xs n ++ [hf xs n] := by simp [halves, List.range_succ]
theorem hf_lt (xs : List Nat) (hd : Dig 4294967296 xs) (i : Nat) : hf xs i < 65536 := by
  have := hd.getD (by decide) (i / 2)
  unfold hf; split <;> omega
theorem halves_dig (xs : List Nat) (hd : Dig 4294967296 xs) (n : Nat) : Dig 65536 (halves xs n) := by
  intro x hx
  simp only [halves, List.mem_map] at hx
  obtain ⟨i, _, rfl⟩ := hx
  exact hf_lt xs hd i
theorem halves_getD (xs : List Nat) (n i : Nat) (h : i < n) : (halves xs n).getD i 0 = hf xs i := by
  rw [List.getD_eq_getElem?_getD]; simp [halves, h]
theorem halves_val2 (xs : List Nat) (hd : Dig 4294967296 xs) : ∀ n, val 65536 (halves xs (2 * n)) = val 4294967296 (xs.take n) := by
  intro n
  induction n with
  | zero => rfl
  | succ n ih =>
    rw [show 2 * (n + 1) = 2 * n + 1 + 1 by omega, halves_succ, halves_succ, val_append, val_append, ih, List.length_append, halves_len]
    have h1 : hf xs (2 * n) = xs.getD n 0 % 65536 := by unfold hf; rw [if_pos (by omega), show 2 * n / 2 = n by omega]
    have h2 : hf xs (2 * n + 1) = xs.getD n 0 / 65536 := by unfold hf; rw [if_neg (by omega), show (2 * n + 1) / 2 = n by omega]
    rw [h1, h2]
    have e1 : ∀ d, val 65536 [d] = d := fun d => by simp [val]
    rw [e1, e1]
    have ep : (65536 : Nat) ^ (2 * n) = 4294967296 ^ n := by rw [Nat.pow_mul]
    by_cases hn : n < xs.length
    · rw [val_take_succ xs n hn, List.length_singleton, Nat.pow_succ, ep]
      generalize xs.getD n 0 = d
      generalize (4294967296 : Nat) ^ n = P
      rw [Nat.add_assoc, Nat.mul_assoc, ← Nat.mul_add, show d % 65536 + 65536 * (d / 65536) = d by omega]
    · have h0 : xs.getD n 0 = 0 := by rw [List.getD_eq_getElem?_getD, List.getElem?_eq_none (by omega)]; rfl
      rw [h0, List.take_of_length_le (show xs.length ≤ n + 1 by omega), List.take_of_length_le (by omega)]
      simp
theorem halves_val (xs : List Nat) (hd : Dig 4294967296 xs) (n : Nat) (h : xs.length ≤ n) : val 65536 (halves xs (2 * n)) = val 4294967296 xs := by
  rw [halves_val2 xs hd n, List.take_of_length_le h]
theorem half_loop (xs : List Nat) (hd : Dig 4294967296 xs) (n : Nat) (hn : n < 1000000) (m : Nat) : ∀ (k i : Nat), i + m = n → m < k → samphireref02_Half.l0 k (I xs) (n : Int) (I (halves xs i)) (i : Int) = some (I (halves xs n)) := by
  induction m with
  | zero =>
    intro k i hi hk
    obtain ⟨k, rfl, hk⟩ := succ_of hk
    rw [samphireref02_Half.l0, if_neg (by omega), show i = n by omega]
  | succ m ih =>
    intro k i hi hk
    obtain ⟨k, rfl, hk⟩ := succ_of hk
    have e1 : wrap64 (Int.tdiv (i : Int) 2) = ((i / 2 : Nat) : Int) := by rw [Int.tdiv_eq_ediv_of_nonneg (by omega)]; unfold wrap64; omega
    have e2 : Int.tmod (i : Int) 2 = ((i % 2 : Nat) : Int) := by rw [Int.tmod_eq_emod_of_nonneg (by omega)]; omega
    have hg := hd.getD (by decide) (i / 2)
    have h0 : ¬ i / 2 < xs.length → xs.getD (i / 2) 0 = 0 := fun h => by rw [List.getD_eq_getElem?_getD, List.getElem?_eq_none (by omega)]; rfl
    have hnext := ih k (i + 1) (by omega) (by omega)
    rw [halves_succ, ← I_snoc] at hnext
    have hL : (I (halves xs i)).length = i := by rw [I_length, halves_len]
    rw [samphireref02_Half.l0, if_pos (by omega), e1, e2, rd_I, hL, inc64 i (by omega)]
    have hw : IntKind.u64.wrap ((xs.getD (i / 2) 0 : Nat) : Int) = ((xs.getD (i / 2) 0 : Nat) : Int) := by rw [IntKind.wrap_u64]; omega
    have hf0 : i % 2 = 0 → hf xs i = xs.getD (i / 2) 0 % 65536 := fun h => if_pos h
    have hf1 : ¬ i % 2 = 0 → hf xs i = xs.getD (i / 2) 0 / 65536 := fun h => if_neg h
    rw [hw, I_length]
    generalize xs.getD (i / 2) 0 = d at *
    have t1 : Int.tmod (d : Int) 65536 = ((d % 65536 : Nat) : Int) := by rw [Int.tmod_eq_emod_of_nonneg (by omega)]; omega
    have t2 : IntKind.u64.wrap (Int.tdiv (d : Int) 65536) = ((d / 65536 : Nat) : Int) := by rw [Int.tdiv_eq_ediv_of_nonneg (by omega), IntKind.wrap_u64]; omega
    rw [t1, t2]
    by_cases hlt : i / 2 < xs.length
    · rw [if_pos (by omega), if_pos (by omega)]
      by_cases hp : i % 2 = 0
      · rw [if_pos (by omega), if_pos (by omega), ← hf0 hp]; exact hnext
      · rw [if_neg (by omega), if_pos (by omega), ← hf1 hp]; exact hnext
    · have hz := h0 hlt
      rw [if_neg (by omega)]
      by_cases hp : i % 2 = 0
      · rw [hf0 hp, hz] at hnext
        rw [if_pos (by omega), if_pos (by omega)]; exact hnext
      · rw [hf1 hp, hz] at hnext
        rw [if_neg (by omega), if_pos (by omega)]; exact hnext
theorem half (xs : List Nat) (hd : Dig 4294967296 xs) (n : Nat) (hn : n < 1000000) (k : Nat) (hk : n < k) : samphireref02_Half.f k (I xs) (n : Int) = some (I (halves xs n)) := by
  have := half_loop xs hd n hn n k 0 (by omega) hk
  exact this
theorem val_set (B : Nat) : ∀ (xs : List Nat) (i d : Nat), i < xs.length → val B (xs.set i d) + B ^ i * xs.getD i 0 = val B xs + B ^ i * d := by
  intro xs
  induction xs with
  | nil => intro i d h; cases h
  | cons x xs ih =>
    intro i d h
    cases i with
    | zero => simp [val]; omega
    | succ i =>
      have h2 := ih i d (by simpa using h)
      simp only [List.set_cons_succ, List.getD_cons_succ, val, Nat.pow_succ]
      have e : B ^ i * B * xs.getD i 0 = B * (B ^ i * xs.getD i 0) := by rw [Nat.mul_comm (B ^ i) B, Nat.mul_assoc]
      have e2 : B ^ i * B * d = B * (B ^ i * d) := by rw [Nat.mul_comm (B ^ i) B, Nat.mul_assoc]
      rw [e, e2, Nat.add_assoc, ← Nat.mul_add, h2, Nat.mul_add]; omega
theorem dig_set {B : Nat} {xs : List Nat} (h : Dig B xs) (i d : Nat) (hd : d < B) : Dig B (xs.set i d) := fun x hx => by
  rcases List.mem_or_eq_of_mem_set hx with h2 | h2
  · exact h x h2
  · rw [h2]; exact hd
theorem getD_set_ne (xs : List Nat) (i j d : Nat) (h : i ≠ j) : (xs.set i d).getD j 0 = xs.getD j 0 := by
  rw [List.getD_eq_getElem?_getD, List.getD_eq_getElem?_getD, List.getElem?_set_ne h]
theorem drop_val (ys : List Nat) (i : Nat) (h : i < ys.length) : val 65536 (ys.drop i) = ys.getD i 0 + 65536 * val 65536 (ys.drop (i + 1)) := by
  rw [List.drop_eq_getElem_cons h]
  have : ys.getD i 0 = ys[i] := by rw [List.getD_eq_getElem?_getD, List.getElem?_eq_getElem h]; rfl
  rw [this]; rfl
theorem add_loop (ys : List Nat) (hy : Dig 65536 ys) (n : Nat) (hn : n < 1000000) (hyl : ys.length = n) (K : Nat) (hK : 2 * n + 2 < K) (m : Nat) : ∀ (k i over : Nat) (xs : List Nat), Dig 65536 xs → xs.length = n → over ≤ 1 → i + m = n → K + m < k →
    val 65536 xs + 65536 ^ i * over + 65536 ^ i * val 65536 (ys.drop i) < 65536 ^ n →
    samphireref02_Add.l0 k (n : Int) (I xs) (I ys) (over : Int) (i : Int) = some (I (limbs (val 65536 xs + 65536 ^ i * over + 65536 ^ i * val 65536 (ys.drop i)))) := by
  induction m with
  | zero =>
    intro k i over xs hx hxl ho hi hk hT
    obtain ⟨k, rfl, hk⟩ := succ_of hk
    obtain rfl : i = n := by omega
    have hd : ys.drop i = [] := List.drop_eq_nil_of_le (by omega)
    rw [hd] at hT ⊢
    have h0 : over = 0 := by
      rcases Nat.eq_zero_or_pos over with h | h
      · exact h
      · obtain rfl : over = 1 := by omega
        omega
    subst h0
    rw [samphireref02_Add.l0, if_neg (by omega), whole xs hx (by omega) k (by omega), Option.bind_some]
    simp [val]
  | succ m ih =>
    intro k i over xs hx hxl ho hi hk hT
    obtain ⟨k, rfl, hk⟩ := succ_of hk
    have hxi := hx.getD (by decide) i
    have hyi := hy.getD (by decide) i
    have hset := fun d => val_set 65536 xs i d (by omega)
    have hdr := drop_val ys i (by omega)
    rw [samphireref02_Add.l0, if_pos (by omega), if_pos (by omega), if_pos (by rw [I_length]; omega), if_pos (by rw [I_length]; omega), rd_I, rd_I, inc64 i (by omega)]
    generalize xs.getD i 0 = x at *
    generalize ys.getD i 0 = y at *
    have e1 : IntKind.u64.wrap (IntKind.u64.wrap ((x : Int) + (y : Int)) + (over : Int)) = ((x + y + over : Nat) : Int) := by
      rw [IntKind.wrap_u64, IntKind.wrap_u64]; omega
    have e2 : Int.tmod ((x + y + over : Nat) : Int) 65536 = (((x + y + over) % 65536 : Nat) : Int) := by rw [Int.tmod_eq_emod_of_nonneg (by omega)]; omega
    have e3 : IntKind.u64.wrap (Int.tdiv ((x + y + over : Nat) : Int) 65536) = (((x + y + over) / 65536 : Nat) : Int) := by rw [Int.tdiv_eq_ediv_of_nonneg (by omega), IntKind.wrap_u64]; omega
    rw [e1, e2, e3, Int.toNat_natCast, I_set]
    have hs := hset ((x + y + over) % 65536)
    have hsum : x + y + over = (x + y + over) % 65536 + 65536 * ((x + y + over) / 65536) := by omega
    have hT2 : val 65536 (xs.set i ((x + y + over) % 65536)) + 65536 ^ (i + 1) * ((x + y + over) / 65536) + 65536 ^ (i + 1) * val 65536 (ys.drop (i + 1)) = val 65536 xs + 65536 ^ i * over + 65536 ^ i * val 65536 (ys.drop i) := by
      rw [hdr, Nat.pow_succ, Nat.mul_add, Nat.mul_assoc, Nat.mul_assoc]
      have h1 : 65536 ^ i * (x + y + over) = 65536 ^ i * ((x + y + over) % 65536) + 65536 ^ i * (65536 * ((x + y + over) / 65536)) := by rw [← Nat.mul_add, ← hsum]
      rw [Nat.mul_add, Nat.mul_add] at h1
      omega
    have h3 := ih k (i + 1) ((x + y + over) / 65536) (xs.set i ((x + y + over) % 65536)) (dig_set hx i _ (Nat.mod_lt _ (by decide))) (by rw [List.length_set]; exact hxl) (by omega) (by omega) (by omega) (by rw [hT2]; exact hT)
    rw [hT2] at h3
    exact h3
theorem limbs_lt (a n : Nat) (h : (limbs a).length ≤ n) : a < 65536 ^ (2 * n) := by
  have := (limbs_len a n).1 h
  rwa [Nat.pow_mul, show (65536 : Nat) ^ 2 = 4294967296 by decide]
theorem add_ (a b : Nat) (ha : (limbs a).length ≤ 64) (hb : (limbs b).length ≤ 64) (k : Nat) (hk : 600 < k) : samphireref02_Add.f k (I (limbs a)) (I (limbs b)) = some (I (limbs (a + b))) := by
  obtain ⟨m, hm⟩ : ∃ m, m = max (limbs a).length (limbs b).length := ⟨_, rfl⟩
  have e0 : mx ((I (limbs a)).length : Int) ((I (limbs b)).length : Int) = (m : Int) := by rw [I_length, I_length]; unfold mx; split <;> omega
  have e1 : wrap64 (wrap64 (2 * (m : Int)) + 2) = ((2 * (m + 1) : Nat) : Int) := by unfold wrap64; omega
  have hal := limbs_lt a m (by omega)
  have hbl := limbs_lt b m (by omega)
  unfold samphireref02_Add.f
  rw [e0, e1, half _ (limbs_dig a) _ (by omega) k (by omega), Option.bind_some, half _ (limbs_dig b) _ (by omega) k (by omega), Option.bind_some]
  have va := halves_val (limbs a) (limbs_dig a) (m + 1) (by omega)
  have vb := halves_val (limbs b) (limbs_dig b) (m + 1) (by omega)
  rw [val_limbs] at va vb
  have hp : (65536 : Nat) ^ (2 * (m + 1)) = 65536 ^ (2 * m) * 4294967296 := by rw [show 2 * (m + 1) = 2 * m + 2 by omega, Nat.pow_add]
  have h := add_loop (halves (limbs b) (2 * (m + 1))) (halves_dig _ (limbs_dig b) _) (2 * (m + 1)) (by omega) (halves_len _ _) 300 (by omega) (2 * (m + 1)) k 0 0 (halves (limbs a) (2 * (m + 1))) (halves_dig _ (limbs_dig a) _) (halves_len _ _) (by omega) (by omega) (by omega)
    (by rw [List.drop_zero, va, vb, hp]; simp only [Nat.pow_zero, Nat.one_mul, Nat.mul_zero, Nat.add_zero]; omega)
  rw [List.drop_zero, va, vb] at h
  simpa using h
theorem ofNatZ (n : Nat) : (0 : Int) ≤ (n : Int) := Int.natCast_nonneg n
theorem mul_e1 (o z over : Nat) (h : o < 65536) (hz : z ≤ 65535 * 65535) (hv : over < 65536) : IntKind.u64.wrap (IntKind.u64.wrap ((o : Int) + IntKind.u64.wrap (z : Int)) + (over : Int)) = ((o + z + over : Nat) : Int) := by
  rw [IntKind.wrap_u64, IntKind.wrap_u64, IntKind.wrap_u64]; omega
theorem mul_e2 (s : Nat) : Int.tmod (s : Int) 65536 = ((s % 65536 : Nat) : Int) := by rw [Int.tmod_eq_emod_of_nonneg (by omega)]; omega
theorem mul_e3 (s : Nat) (h : s < 18446744073709551616) : IntKind.u64.wrap (Int.tdiv (s : Int) 65536) = ((s / 65536 : Nat) : Int) := by rw [Int.tdiv_eq_ediv_of_nonneg (by omega), IntKind.wrap_u64]; omega
theorem add64w (i k : Nat) (h : i + k < 9223372036854775808) : wrap64 ((i : Int) + (k : Int)) = ((i + k : Nat) : Int) := by unfold wrap64; omega
theorem mul_step (K n m : Nat) (xs ys os : List Nat) (hx : Dig 65536 xs) (hy : Dig 65536 ys) (ho : Dig 65536 os) (i k over : Nat) (hk : k < m) (hym : ys.length = m) (hi : i < xs.length) (hik : i + k < os.length) (hol : os.length < 1000000) (hov : over < 65536) :
    samphireref02_Mul.l1 (K + 1) (n : Int) (m : Int) (I xs) (I ys) (I os) (i : Int) (over : Int) (k : Int) = samphireref02_Mul.l1 K (n : Int) (m : Int) (I xs) (I ys) (I (os.set (i + k) ((os.getD (i + k) 0 + xs.getD i 0 * ys.getD k 0 + over) % 65536))) (i : Int) (((os.getD (i + k) 0 + xs.getD i 0 * ys.getD k 0 + over) / 65536 : Nat) : Int) ((k + 1 : Nat) : Int) := by
  have hxi := hx.getD (by decide) i
  have hyk := hy.getD (by decide) k
  have hoi := ho.getD (by decide) (i + k)
  have c1 : (k : Int) < (m : Int) := Int.ofNat_lt.2 hk
  have c2 : ((i + k : Nat) : Int) < ((I os).length : Int) := by rw [I_length]; exact Int.ofNat_lt.2 hik
  have c3 : (i : Int) < ((I xs).length : Int) := by rw [I_length]; exact Int.ofNat_lt.2 hi
  have c4 : (k : Int) < ((I ys).length : Int) := by rw [I_length, hym]; exact c1
  rw [samphireref02_Mul.l1, if_pos c1, add64w i k (by omega), if_pos (ofNatZ _), if_pos c2, if_pos (ofNatZ _), if_pos c3, if_pos (ofNatZ _), if_pos c4, rd_I, rd_I, rd_I, inc64 k (by omega)]
  have exy : ((xs.getD i 0 : Nat) : Int) * ((ys.getD k 0 : Nat) : Int) = ((xs.getD i 0 * ys.getD k 0 : Nat) : Int) := (Int.natCast_mul _ _).symm
  have hxy : xs.getD i 0 * ys.getD k 0 ≤ 65535 * 65535 := Nat.mul_le_mul (Nat.le_of_lt_succ hxi) (Nat.le_of_lt_succ hyk)
  have hs : os.getD (i + k) 0 + xs.getD i 0 * ys.getD k 0 + over < 18446744073709551616 := by
    generalize xs.getD i 0 * ys.getD k 0 = z at hxy
    generalize os.getD (i + k) 0 = o at hoi
    clear exy c1 c2 c3 c4
    omega
  rw [exy, mul_e1 _ _ _ hoi hxy hov, mul_e2, mul_e3 _ hs, Int.toNat_natCast, I_set]
theorem set_self (os : List Nat) (j : Nat) (h : j < os.length) : os.set j (os.getD j 0) = os := by
  rw [List.getD_eq_getElem?_getD, List.getElem?_eq_getElem h, Option.getD_some, List.set_getElem_self]
def y6 : List Nat := [0, 0, 0, 0, 1, 0]
theorem y6_dig : Dig 65536 y6 := by
  intro x hx
  simp [y6] at hx
  omega
theorem mul_skip (K n : Nat) (xs os : List Nat) (hx : Dig 65536 xs) (ho : Dig 65536 os) (i k : Nat) (hk : k < 6) (hy : y6.getD k 0 = 0) (hi : i < xs.length) (hik : i + k < os.length) (hol : os.length < 1000000) :
    samphireref02_Mul.l1 (K + 1) (n : Int) ((6 : Nat) : Int) (I xs) (I y6) (I os) (i : Int) ((0 : Nat) : Int) (k : Int) = samphireref02_Mul.l1 K (n : Int) ((6 : Nat) : Int) (I xs) (I y6) (I os) (i : Int) ((0 : Nat) : Int) ((k + 1 : Nat) : Int) := by
  have hoi := ho.getD (by decide) (i + k)
  rw [mul_step K n 6 xs y6 os hx y6_dig ho i k 0 hk rfl hi hik hol (by decide), hy, Nat.mul_zero, Nat.add_zero, Nat.add_zero, Nat.mod_eq_of_lt hoi, set_self os (i + k) hik, Nat.div_eq_of_lt hoi]
theorem mul_row (K n : Nat) (xs os : List Nat) (hx : Dig 65536 xs) (ho : Dig 65536 os) (i : Nat) (hi : i < xs.length) (hol : os.length = xs.length + 8) (hxl : xs.length < 900000) (h0 : os.getD (i + 4) 0 = 0) :
    samphireref02_Mul.l1 (K + 7) (n : Int) ((6 : Nat) : Int) (I xs) (I y6) (I os) (i : Int) ((0 : Nat) : Int) ((0 : Nat) : Int) = samphireref02_Mul.l0 K (n : Int) ((6 : Nat) : Int) (I xs) (I y6) (I (os.set (i + 4) (xs.getD i 0))) ((i + 1 : Nat) : Int) := by
  have hxi := hx.getD (by decide) i
  have ho2 : Dig 65536 (os.set (i + 4) (xs.getD i 0)) := dig_set ho _ _ hxi
  have hl2 : (os.set (i + 4) (xs.getD i 0)).length = xs.length + 8 := by rw [List.length_set]; exact hol
  rw [mul_skip (K + 6) n xs os hx ho i 0 (by decide) rfl hi (by omega) (by omega), mul_skip (K + 5) n xs os hx ho i 1 (by decide) rfl hi (by omega) (by omega), mul_skip (K + 4) n xs os hx ho i 2 (by decide) rfl hi (by omega) (by omega), mul_skip (K + 3) n xs os hx ho i 3 (by decide) rfl hi (by omega) (by omega)]
  rw [mul_step (K + 2) n 6 xs y6 os hx y6_dig ho i 4 0 (by decide) rfl hi (by omega) (by omega) (by decide), show y6.getD 4 0 = 1 from rfl, h0, Nat.mul_one, Nat.zero_add, show xs.getD i 0 + 0 = xs.getD i 0 from rfl, Nat.mod_eq_of_lt hxi, Nat.div_eq_of_lt hxi]
  rw [mul_skip (K + 1) n xs _ hx ho2 i 5 (by decide) rfl hi (by omega) (by omega)]
  have ew : wrap64 ((i : Int) + ((6 : Nat) : Int)) = ((i + 6 : Nat) : Int) := add64w i 6 (by omega)
  have hz := ho2.getD (by decide) (i + 6)
  rw [samphireref02_Mul.l1, if_neg (by decide), ew, if_pos (ofNatZ _), if_pos (by rw [I_length, hl2]; exact Int.ofNat_lt.2 (by omega)), rd_I, inc64 i (by omega)]
  have e : IntKind.u64.wrap ((((os.set (i + 4) (xs.getD i 0)).getD (i + 6) 0 : Nat) : Int) + ((0 : Nat) : Int)) = (((os.set (i + 4) (xs.getD i 0)).getD (i + 6) 0 : Nat) : Int) := by
    generalize (os.set (i + 4) (xs.getD i 0)).getD (i + 6) 0 = q at hz
    clear ew h0
    rw [IntKind.wrap_u64]; omega
  rw [e, Int.toNat_natCast, I_set, set_self _ (i + 6) (by omega)]
def rowsO (xs : List Nat) (i : Nat) : List Nat := List.replicate 4 0 ++ (xs.take i ++ List.replicate (xs.length - i + 4) 0)
theorem rowsO_len (xs : List Nat) (i : Nat) (h : i ≤ xs.length) : (rowsO xs i).length = xs.length + 8 := by simp [rowsO]; omega
theorem rowsO_dig (xs : List Nat) (hx : Dig 65536 xs) (i : Nat) : Dig 65536 (rowsO xs i) := by
  intro x h
  simp only [rowsO, List.mem_append, List.mem_replicate] at h
  rcases h with h | h | h
  · omega
  · exact hx x (List.mem_of_mem_take h)
  · omega
theorem rowsO_at (xs : List Nat) (i : Nat) (h : i < xs.length) : (rowsO xs i).getD (i + 4) 0 = 0 := by
  have hl : (xs.take i).length = i := by rw [List.length_take]; omega
  rw [List.getD_eq_getElem?_getD, rowsO, List.getElem?_append_right (by simp), List.length_replicate, show i + 4 - 4 = i by omega, List.getElem?_append_right (by omega), hl, Nat.sub_self, List.getElem?_replicate]
  simp
theorem rowsO_set (xs : List Nat) (i : Nat) (h : i < xs.length) : (rowsO xs i).set (i + 4) (xs.getD i 0) = rowsO xs (i + 1) := by
  have hl : (xs.take i).length = i := by rw [List.length_take]; omega
  unfold rowsO
  rw [List.set_append_right _ _ (by simp), List.length_replicate, show i + 4 - 4 = i by omega, List.set_append_right _ _ (by omega), hl, Nat.sub_self, show xs.length - i + 4 = (xs.length - (i + 1) + 4) + 1 by omega, List.replicate_succ (n := xs.length - (i + 1) + 4), List.set_cons_zero, take_succ_getD xs i h, List.append_assoc]
  rfl
theorem mul_rows (xs : List Nat) (hx : Dig 65536 xs) (hxl : xs.length < 1000) (d : Nat) : ∀ (K i : Nat), i + d = xs.length → 3000 ≤ K →
    samphireref02_Mul.l0 (K + 8 * d + 1) (xs.length : Int) ((6 : Nat) : Int) (I xs) (I y6) (I (rowsO xs i)) (i : Int) = some (I (limbs (65536 ^ 4 * val 65536 xs))) := by
  induction d with
  | zero =>
    intro K i hi hK
    have hlen := rowsO_len xs i (by omega)
    rw [samphireref02_Mul.l0, if_neg (by omega), whole _ (rowsO_dig xs hx i) (by omega) _ (by omega), Option.bind_some]
    have hv : val 65536 (rowsO xs i) = 65536 ^ 4 * val 65536 xs := by
      rw [rowsO, val_append, val_append, val_zeros, val_zeros, List.take_of_length_le (by omega), List.length_replicate]
      simp
    rw [hv]
  | succ d ih =>
    intro K i hi hK
    have h := mul_row (K + 8 * d + 1) xs.length xs (rowsO xs i) hx (rowsO_dig xs hx i) i (by omega) (rowsO_len xs i (by omega)) (by omega) (rowsO_at xs i (by omega))
    rw [rowsO_set xs i (by omega), ih K (i + 1) (by omega) hK] at h
    rw [show K + 8 * (d + 1) + 1 = (K + 8 * d + 1 + 7) + 1 by omega, samphireref02_Mul.l0, if_pos (Int.ofNat_lt.2 (by omega))]
    exact h
theorem mul_two64 (w : Nat) (hw : w < 18446744073709551616) (k : Nat) (hk : 4000 < k) : samphireref02_Mul.f k (I (limbs w)) (I [0, 0, 1]) = some (I (limbs (18446744073709551616 * w))) := by
  have hl : (limbs w).length ≤ 2 := (limbs_len w 2).2 (Nat.lt_of_lt_of_le hw (by decide))
  obtain ⟨n, hn⟩ : ∃ n, n = (limbs w).length := ⟨_, rfl⟩
  have hy : halves [0, 0, 1] 6 = y6 := by decide
  have hyd : Dig 4294967296 [0, 0, 1] := by
    intro x hx
    simp at hx
    omega
  have hx := halves_dig (limbs w) (limbs_dig w) (2 * n)
  have hxl := halves_len (limbs w) (2 * n)
  have hv := halves_val (limbs w) (limbs_dig w) n (by omega)
  rw [val_limbs] at hv
  have e1 : wrap64 (2 * ((I (limbs w)).length : Int)) = ((2 * n : Nat) : Int) := by rw [I_length, ← hn]; unfold wrap64; omega
  have e2 : wrap64 (2 * ((I [0, 0, 1]).length : Int)) = ((6 : Nat) : Int) := by rw [I_length, show ([0, 0, 1] : List Nat).length = 3 from rfl]; unfold wrap64; omega
  have e3 : wrap64 (wrap64 (((2 * n : Nat) : Int) + ((6 : Nat) : Int)) + 2) = ((2 * n + 8 : Nat) : Int) := by unfold wrap64; omega
  unfold samphireref02_Mul.f
  rw [e1, e2, half _ (limbs_dig w) (2 * n) (by omega) k (by omega), Option.bind_some, half _ hyd 6 (by decide) k (by omega), Option.bind_some, hy, e3, if_pos (ofNatZ _), Int.toNat_natCast, if_pos (by omega), I_replicate]
  have hO : List.replicate (2 * n + 8) 0 = rowsO (halves (limbs w) (2 * n)) 0 := by
    rw [rowsO, List.take_zero, List.nil_append, List.replicate_append_replicate, hxl]
    congr 1; omega
  have h := mul_rows (halves (limbs w) (2 * n)) hx (by omega) (2 * n) (k - 8 * (2 * n) - 1) 0 (by omega) (by omega)
  rw [hxl, hv, show k - 8 * (2 * n) - 1 + 8 * (2 * n) + 1 = k by omega] at h
  rw [hO]
  exact h
end Go.Proofs.Ytpgfadljcmakfaa.DrawB
