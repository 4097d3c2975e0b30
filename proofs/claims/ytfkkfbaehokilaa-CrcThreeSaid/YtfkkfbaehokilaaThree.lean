/- The walk of the law CrcThree: of three texts of one length the sums, changed by one another, are the sum of all three, changed by one another. -/
import Derived.Test.YtfkkfbaehokilaaRow
import Derived.Deep.RegionWith
import Derived.OpenShut
namespace Go.Proofs.Ytfkkfbaehokilaa
open Go.RowKit
set_option linter.unusedVariables false

set_option maxRecDepth 100000 in
set_option maxHeartbeats 1000000 in
theorem crcThree_long (a b c : ByteArray) (ha : a.size ≤ 140737488351232) (hb : b.size ≤ 140737488351232) (hc : c.size ≤ 140737488351232) (w : World)
    (h : 300 < a.size ∧ 300 < b.size ∧ 300 < c.size) :
    Calls Try.prog 7 #[.string a, .string b, .string c] w fun e w' => e = .returned (.bool true) ∧ Below w.heap.size w w' := by
  go_enter Try.func7, Try.ntmps7
  go_wp2_with (fail)
  all_goals
    refine (awake_any _).mono ?_
    rintro e w1 ⟨rfl, hb⟩
    go_wp2
    go_ret
    exact ⟨rfl, hb⟩

/-- the byte at a place of all three, changed by one another; 0 behind them -/
def x3 (a b c : ByteArray) (j : Nat) : Nat := (bs a).getD j 0 ^^^ (bs b).getD j 0 ^^^ (bs c).getD j 0
/-- the first i are told, the others 0 -/
def xs (a b c : ByteArray) (n i : Nat) : List Nat := (List.range n).map fun j => if j < i then x3 a b c j else 0
theorem xs_len (a b c : ByteArray) (n i : Nat) : (xs a b c n i).length = n := by simp [xs]
theorem xs_zero (a b c : ByteArray) (n : Nat) : xs a b c n 0 = List.replicate n 0 := by
  apply List.ext_getElem
  · simp [xs]
  · intro i h1 h2; simp [xs]
theorem xs_step (a b c : ByteArray) (n i : Nat) : (xs a b c n i).set i (x3 a b c i) = xs a b c n (i + 1) := by
  apply List.ext_getElem
  · simp [xs]
  · intro j h1 h2
    rw [List.getElem_set]
    by_cases e : i = j
    · subst e; rw [if_pos rfl]; simp [xs]
    · rw [if_neg e]; simp only [xs, List.getElem_map, List.getElem_range]
      by_cases h3 : j < i
      · rw [if_pos h3, if_pos (by omega)]
      · rw [if_neg h3, if_neg (by omega)]
theorem getD_bs (a : ByteArray) (j : Nat) (h : j < a.size) : (bs a).getD j 0 = a[j].toNat := by
  have : (bs a)[j]? = some a[j].toNat := by
    rw [List.getElem?_eq_getElem (by rw [bs_len]; exact h)]; simp [bs]; rfl
  simp [List.getD, this]
theorem bs_getD_lt (a : ByteArray) (j : Nat) : (bs a).getD j 0 < 256 := by
  by_cases h : j < a.size
  · rw [getD_bs a j h]; exact UInt8.toNat_lt _
  · have : (bs a)[j]? = none := List.getElem?_eq_none (by rw [bs_len]; omega)
    simp [List.getD, this]
theorem x3_lt (a b c : ByteArray) (j : Nat) : x3 a b c j < 256 :=
  Nat.xor_lt_two_pow (n := 8) (Nat.xor_lt_two_pow (n := 8) (bs_getD_lt a j) (bs_getD_lt b j)) (bs_getD_lt c j)
theorem bs_extract (a : ByteArray) (n : Nat) : bs (a.extract 0 n) = (bs a).take n := by
  simp [bs, List.map_take]
theorem xs_all (a b c : ByteArray) (n : Nat) (ha : n ≤ a.size) (hb : n ≤ b.size) (hc : n ≤ c.size) :
    xs a b c n n = List.zipWith (· ^^^ ·) (List.zipWith (· ^^^ ·) ((bs a).take n) ((bs b).take n)) ((bs c).take n) := by
  apply List.ext_getElem
  · simp [xs, bs_len]; omega
  · intro j h1 h2
    rw [xs_len] at h1
    simp only [xs, List.getElem_map, List.getElem_range, if_pos h1, x3, List.getElem_zipWith, List.getElem_take]
    rw [getD_bs a j (by omega), getD_bs b j (by omega), getD_bs c j (by omega)]; simp [bs]; rfl
theorem xs_sum (a b c : ByteArray) (n : Nat) (ha : n ≤ a.size) (hb : n ≤ b.size) (hc : n ≤ c.size) :
    CrcPure.more 0 (xs a b c n n) = CrcPure.more 0 (bs (a.extract 0 n)) ^^^ CrcPure.more 0 (bs (b.extract 0 n)) ^^^ CrcPure.more 0 (bs (c.extract 0 n)) := by
  rw [xs_all a b c n ha hb hc, bs_extract a n, bs_extract b n, bs_extract c n]
  have la : ((bs a).take n).length = n := by rw [List.length_take, bs_len]; omega
  have lb : ((bs b).take n).length = n := by rw [List.length_take, bs_len]; omega
  have lc : ((bs c).take n).length = n := by rw [List.length_take, bs_len]; omega
  have fa : ∀ x ∈ (bs a).take n, x < 256 := fun x hx => bs_lt a x (List.mem_of_mem_take hx)
  have fb : ∀ x ∈ (bs b).take n, x < 256 := fun x hx => bs_lt b x (List.mem_of_mem_take hx)
  have fc : ∀ x ∈ (bs c).take n, x < 256 := fun x hx => bs_lt c x (List.mem_of_mem_take hx)
  have fz : ∀ {l m : List Nat}, (∀ x ∈ l, x < 256) → (∀ x ∈ m, x < 256) → ∀ x ∈ List.zipWith (· ^^^ ·) l m, x < 256 := by
    intro l m hl hm x hx
    obtain ⟨i, hi, rfl⟩ := List.mem_iff_getElem.1 hx
    rw [List.getElem_zipWith]
    exact Nat.xor_lt_two_pow (n := 8) (hl _ (List.getElem_mem _)) (hm _ (List.getElem_mem _))
  refine CrcPure.three fa fb fc (fz (fz fa fb) fc) (by rw [lb, la]) (by rw [lc, la]) ?_ ?_
  · simp [la, lb, lc]
  · rw [CrcPure.val_xor (by simp [la, lb, lc]) (fz fa fb) fc, CrcPure.val_xor (by simp [la, lb]) fa fb]

set_option maxRecDepth 100000 in
set_option maxHeartbeats 2000000 in
theorem crcThree_short (a b c : ByteArray) (ha : a.size ≤ 140737488351232) (hb : b.size ≤ 140737488351232) (hc : c.size ≤ 140737488351232) (w : World) (n : Nat) (hn : n ≤ 300)
    (ka : n ≤ a.size) (kb : n ≤ b.size) (kc : n ≤ c.size)
    (h : (b.size < a.size ∧ c.size < b.size ∧ c.size = n) ∨ (b.size < a.size ∧ ¬ c.size < b.size ∧ b.size = n) ∨ (¬ b.size < a.size ∧ c.size < a.size ∧ c.size = n) ∨ (¬ b.size < a.size ∧ ¬ c.size < a.size ∧ a.size = n)) :
    Calls Try.prog 7 #[.string a, .string b, .string c] w fun e w' => e = .returned (.bool true) ∧ Below w.heap.size w w' := by
  have hmk := run_make5 n (by omega)
  have hnn : ¬ (300 : Int) < (n : Int) := by omega
  have hs := xs_sum a b c n ka kb kc
  have hxl : ∀ x ∈ xs a b c n n, x < 256 := by
    intro x hx; simp only [xs, List.mem_map] at hx; obtain ⟨j, _, rfl⟩ := hx; split
    · exact x3_lt a b c j
    · omega
  have HS := Lib.hid hs
  clear hs
  rcases h with ⟨h1, h2, h3⟩ | ⟨h1, h2, h3⟩ | ⟨h1, h2, h3⟩ | ⟨h1, h2, h3⟩
  all_goals
    go_enter Try.func7, Try.ntmps7
    go_wp2_with (fail)
    clear hmk hnn
    go_loopw [9, 24] (fun _ i wr => ∃ k : Nat, k ≤ n ∧ i = .int .i64 k ∧ Row wr w.heap.size (xs a b c n k) ∧ Below w.heap.size w wr) (fun _ i _ => n - (intOf i).toNat)
    case atStart => exact ⟨0, Nat.zero_le _, rfl, by rw [xs_zero]; exact Row.of_make w n, (Below.refl _ _).alloc (Nat.le_refl _) _⟩
  all_goals
    obtain ⟨k, hk, rfl, hrow, hbel⟩ := hrel
    by_cases hlt : k < n
    · have hva : (x3 a b c k) = a[k].toNat ^^^ b[k].toNat ^^^ c[k].toNat := by unfold x3; rw [getD_bs a k (by omega), getD_bs b k (by omega), getD_bs c k (by omega)]
      have hx1 := u8_xor_nat a[k].toNat b[k].toNat (UInt8.toNat_lt _) (UInt8.toNat_lt _)
      have hx2 := u8_xor_nat (a[k].toNat ^^^ b[k].toNat) c[k].toNat (Nat.xor_lt_two_pow (n := 8) (UInt8.toNat_lt _) (UInt8.toNat_lt _)) (UInt8.toNat_lt _)
      rw [← hva] at hx2
      generalize hv : x3 a b c k = v at *
      have HV := Lib.hid hv
      generalize a[k].toNat ^^^ b[k].toNat = y at *
      have HR := Lib.hid hrow
      clear hva hrow hv
      go_wp2_with (fail)
      refine wp_region_still_tail 14 (by kernel_rfl) (by kernel_rfl) ?_
      simp only [List.take_succ_cons, List.take_zero, List.drop_succ_cons, List.drop_zero]
      have e3 : ({ heap := wr.heap, tape := wr.tape, drawn := wr.drawn + 1, os := wr.os, output := wr.output } : World) = wr.drew := rfl
      rw [e3]
      have hbel := hbel.drew
      have hrow : Row wr.drew w.heap.size (xs a b c n k) := HR.out
      clear HR e3
      generalize wr.drew = wd at *
      obtain ⟨hc1, hc2⟩ := hrow k (by rw [xs_len]; exact hlt)
      have hst := hrow.store k v
      rw [← HV.out, xs_step, HV.out] at hst
      have hbs := hbel.setCell (p := ⟨w.heap.size, k, none⟩) (Nat.le_refl _) (.int .u8 (v : Int))
      have HST := Lib.hid hst
      have HBS := Lib.hid hbs
      clear hst hrow hbs
      have q1 : (k : Int) < a.size := by omega
      have q2 : (k : Int) < b.size := by omega
      have q3 : (k : Int) < c.size := by omega
      repeat still_step
      refine wpStill_nil ?_
      go_wp2
      go_roundw
      case rel => exact ⟨k + 1, by omega, by go_num, HST.out, HBS.out⟩
      case measure => simp [intOf]; omega
    · obtain rfl : k = n := by omega
      have hcv := fun cap => hrow.drew.string (t := str (xs a b c k k)) (bs_str _ hxl).symm cap
      rw [xs_len] at hcv
      have hsum := HS.out
      rw [← bs_str (xs a b c k k) hxl] at hsum
      clear hrow HS hxl
      have hsz : ∀ t : ByteArray, (t.extract 0 k).size ≤ 140737488351232 := by intro t; rw [ByteArray.size_extract]; omega
      have hsd : (str (xs a b c k k)).size ≤ 140737488351232 := by simp [str, ByteArray.size, xs_len]; omega
      generalize str (xs a b c k k) = d at *
      have H0 := fun w => sum_any d hsd w
      have H1 := fun w => sum_any (a.extract 0 k) (hsz a) w
      have H2 := fun w => sum_any (b.extract 0 k) (hsz b) w
      have H3 := fun w => sum_any (c.extract 0 k) (hsz c) w
      have l1 := CrcPure.more_lt 0 (bs (a.extract 0 k))
      have l2 := CrcPure.more_lt 0 (bs (b.extract 0 k))
      have l3 := CrcPure.more_lt 0 (bs (c.extract 0 k))
      generalize CrcPure.more 0 (bs d) = m0 at *
      generalize CrcPure.more 0 (bs (a.extract 0 k)) = m1 at *
      generalize CrcPure.more 0 (bs (b.extract 0 k)) = m2 at *
      generalize CrcPure.more 0 (bs (c.extract 0 k)) = m3 at *
      have x1 := u32_xor_nat m1 m2 l1 l2
      have x2 := u32_xor_nat (m1 ^^^ m2) m3 (Nat.xor_lt_two_pow (n := 32) l1 l2) l3
      rw [← hsum] at x2
      generalize m1 ^^^ m2 = m12 at *
      clear hsum l1 l2 l3 hsz hsd
      have H0 := Lib.hid H0; have H1 := Lib.hid H1; have H2 := Lib.hid H2; have H3 := Lib.hid H3
      have q1 : (k : Int) ≤ a.size := by omega
      have q2 : (k : Int) ≤ b.size := by omega
      have q3 : (k : Int) ≤ c.size := by omega
      go_wp2_with (fail)
      go_region_with (first
        | (go_at_call_of 12 (ByteArray.extract a 0 k); refine (H1.out _).mono ?_; rintro e w' ⟨rfl, hb⟩)
        | (go_at_call_of 12 (ByteArray.extract b 0 k); refine (H2.out _).mono ?_; rintro e w' ⟨rfl, hb⟩)
        | (go_at_call_of 12 (ByteArray.extract c 0 k); refine (H3.out _).mono ?_; rintro e w' ⟨rfl, hb⟩)
        | (go_at_call_of 12 d; refine (H0.out _).mono ?_; rintro e w' ⟨rfl, hb⟩)
        | (go_at_call 9; refine (awake_any _).mono ?_; rintro e w' ⟨rfl, hb⟩))
      all_goals
        go_wp2
        go_ret
        refine ⟨rfl, ?_⟩
        repeat (first | assumption | exact hbel.drew | exact bdrew (by assumption) | refine bt ?_ (by assumption))
theorem crcThree_walk (a0 a1 a2 : ByteArray) (w : World) (w0 : a0.size ≤ 140737488351232) (w1 : a1.size ≤ 140737488351232) (w2 : a2.size ≤ 140737488351232) :
    Calls Try.prog 7 #[.string a0, .string a1, .string a2] w fun e w' => e = .returned (.bool true) ∧ Below w.heap.size w w' := by
  by_cases h : 300 < a0.size ∧ 300 < a1.size ∧ 300 < a2.size
  · exact crcThree_long a0 a1 a2 w0 w1 w2 w h
  · obtain ⟨n, hn⟩ : ∃ n, n = min (min a0.size a1.size) a2.size := ⟨_, rfl⟩
    exact crcThree_short a0 a1 a2 w0 w1 w2 w n (by omega) (by omega) (by omega) (by omega) (by omega)
end Go.Proofs.Ytfkkfbaehokilaa
