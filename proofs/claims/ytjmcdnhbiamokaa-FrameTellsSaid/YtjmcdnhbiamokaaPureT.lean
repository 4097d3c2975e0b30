/- The document's answer for frames: its sum, its numbers, its texts. -/
import Derived.Test.YtjmcdnhbiamokaaQx4
import Derived.Test.YtjmcdnhbiamokaaPureR
import Derived.Test.YtjmcdnhbiamokaaPureG
namespace Go.Proofs.Ytjmcdnhbiamokaa.Pure
open Go.RowKit Go.Proofs.Ytjmcdnhbiamokaa.Q Go.Proofs.YtjmcdnhbiamokaaW.PrintWords Go.Proofs.YtjmcdnhbiamokaaW.PrintLast
set_option linter.unusedVariables false
set_option linter.unusedSimpArgs false
theorem st_int (m : Nat) (hm : m < 4294967296) : Go.bits .xor .u32 ((Int.tdiv (m : Int) 2) % 4294967296) 2197175160 = ((m / 2 ^^^ CrcPure.pl : Nat) : Int) := by
  have e : (Int.tdiv (m : Int) 2) % 4294967296 = ((m / 2 : Nat) : Int) := by rw [Int.tdiv_eq_ediv_of_nonneg (by omega)]; omega
  rw [e]
  exact u32_xor_nat (m / 2) 2197175160 (by omega) (by decide)
theorem refbits (x : ByteArray) (i : Int) : ∀ (d K m : Nat), m < 4294967296 → d ≤ 8 → samphireref06_More.l1 (K + d + 1) x (m : Int) i ((8 : Int) - (d : Int)) = samphireref06_More.l0 K x (CrcPure.stn d m : Nat) (wrap64 (i + 1)) := by
  intro d
  induction d with
  | zero =>
    intro K m hm hd
    rw [samphireref06_More.l1, if_neg (by omega)]
    rfl
  | succ d ih =>
    intro K m hm hd
    have ew : wrap64 ((8 : Int) - ((d + 1 : Nat) : Int) + 1) = (8 : Int) - (d : Int) := by unfold wrap64; omega
    rw [show K + (d + 1) + 1 = (K + d + 1) + 1 by omega, samphireref06_More.l1, if_pos (by omega), ew]
    have hst : CrcPure.st m < 4294967296 := CrcPure.st_lt hm
    have h2 := ih K (CrcPure.st m) hst (by omega)
    have em : Int.tmod (m : Int) 2 = ((m % 2 : Nat) : Int) := by rw [Int.tmod_eq_emod_of_nonneg (by omega)]; omega
    rw [em]
    by_cases hb : m % 2 = 1
    · rw [if_pos (by omega), st_int m hm]
      rw [show CrcPure.st m = m / 2 ^^^ CrcPure.pl from if_pos hb] at h2
      exact h2.trans (by rw [CrcPure.stn, show CrcPure.st m = m / 2 ^^^ CrcPure.pl from if_pos hb])
    · rw [if_neg (by omega)]
      rw [show CrcPure.st m = m / 2 from if_neg hb] at h2
      have e : (Int.tdiv (m : Int) 2) % 4294967296 = ((m / 2 : Nat) : Int) := by rw [Int.tdiv_eq_ediv_of_nonneg (by omega)]; omega
      rw [e]
      exact h2.trans (by rw [CrcPure.stn, show CrcPure.st m = m / 2 from if_neg hb])
theorem bt_nat (x : ByteArray) (k : Nat) (h : k < x.size) : bt x (k : Int) = (x[k].toNat : Int) := by
  have := bt_at x (k : Int) (by simpa using h)
  rw [← this]; rfl
theorem refloop (x : ByteArray) (hz : x.size ≤ 140737488351232) : ∀ d K k, k + d = x.size → samphireref06_More.l0 (K + 10 * d + 1) x (CrcPure.run CrcPure.top ((bs x).take k) : Nat) (k : Int) = some ((CrcPure.more 0 (bs x) : Nat) : Int) := by
  intro d
  induction d with
  | zero =>
    intro K k hk
    have hlt32 : CrcPure.run CrcPure.top (bs x) < 4294967296 := CrcPure.run_lt (by decide) (bs_lt x)
    have he : (bs x).take k = bs x := by rw [show k = x.size by omega, ← bs_len x, List.take_length]
    rw [samphireref06_More.l0, if_neg (by omega), he]
    congr 1
    unfold CrcPure.more CrcPure.top at *
    simp only [Nat.sub_zero]
    omega
  | succ d ih =>
    intro K k hk
    have hlt : k < x.size := by omega
    have hlt32 : CrcPure.run CrcPure.top ((bs x).take k) < 4294967296 := CrcPure.run_lt (by decide) (fun c hc => bs_lt x c (List.mem_of_mem_take hc))
    have hc : x[k].toNat < 256 := x[k].toNat_lt
    have hn : CrcPure.run CrcPure.top ((bs x).take k) ^^^ x[k].toNat < 4294967296 := Nat.xor_lt_two_pow (n := 32) hlt32 (by omega)
    have hstep : CrcPure.run CrcPure.top ((bs x).take (k + 1)) = CrcPure.stn 8 (CrcPure.run CrcPure.top ((bs x).take k) ^^^ x[k].toNat) := by
      rw [run_take CrcPure.top x k hlt, CrcPure.upd_eq]
    rw [show K + 10 * (d + 1) + 1 = (K + 10 * d + 10) + 1 by omega, samphireref06_More.l0, if_pos (by omega), if_pos (by omega), bt_nat x k hlt]
    rw [show ((x[k].toNat : Nat) : Int) % 4294967296 = ((x[k].toNat : Nat) : Int) by omega, u32_xor_nat _ _ hlt32 (by omega)]
    have h8 := refbits x (k : Int) 8 (K + 10 * d + 1) _ hn (by omega)
    rw [show K + 10 * d + 1 + 8 + 1 = K + 10 * d + 10 by omega] at h8
    have ew : wrap64 ((k : Int) + 1) = ((k + 1 : Nat) : Int) := by unfold wrap64; omega
    refine h8.trans ?_
    rw [ew, ← hstep]
    exact ih K (k + 1) (by omega)
theorem refmore (K : Nat) (x : ByteArray) (hz : x.size ≤ 140737488351232) (hK : 10 * x.size + 1 ≤ K) : samphireref06_More.f K 0 x = some ((CrcPure.more 0 (bs x) : Nat) : Int) := by
  have h := refloop x hz x.size (K - (10 * x.size + 1)) 0 (by omega)
  rw [show K - (10 * x.size + 1) + 10 * x.size + 1 = K by omega] at h
  exact h
theorem refsum (K : Nat) (x : ByteArray) (hz : x.size ≤ 140737488351232) (hK : 10 * x.size + 1 ≤ K) : ∃ t, samphireref09_sum.f K x = some t ∧ t.data.toList = sum4 x.data.toList := by
  unfold samphireref09_sum.f
  rw [refmore K x hz hK, Option.bind_some]
  refine ⟨_, rfl, ?_⟩
  have hlt := CrcPure.more_lt 0 (bs x)
  have hs : sum4 x.data.toList = [UInt8.ofNat (CrcPure.more 0 (bs x) % 256), UInt8.ofNat (CrcPure.more 0 (bs x) / 256 % 256), UInt8.ofNat (CrcPure.more 0 (bs x) / 65536 % 256), UInt8.ofNat (CrcPure.more 0 (bs x) / 16777216 % 256)] := rfl
  rw [hs]
  generalize CrcPure.more 0 (bs x) = n at *
  have e1 : Int.tmod (n : Int) 256 = (n : Int) % 256 := Int.tmod_eq_emod_of_nonneg (by omega)
  have e2 : ∀ b : Int, Int.tdiv (n : Int) b = (n : Int) / b := fun b => Int.tdiv_eq_ediv_of_nonneg (by omega)
  rw [e1, e2, e2, e2, strOfNums_data]
  simp only [List.map_cons, List.map_nil]
  rw [show ((n : Int) % 256 % 256).toNat = n % 256 by omega, show ((n : Int) / 256 % 4294967296 % 256).toNat = n / 256 % 256 by omega, show ((n : Int) / 65536 % 4294967296 % 256).toNat = n / 65536 % 256 by omega, show ((n : Int) / 16777216 % 4294967296 % 256).toNat = n / 16777216 % 256 by omega]
theorem refnum_k (K n : Nat) (hK : 10 ≤ K) (hn : n < 18446744073709551616) : ∃ t, samphireref08_Number.f K (n : Int) = some t ∧ t.data.toList = vi n := by
  obtain ⟨t, h1, h2⟩ := refnum_f (K - 10) n hn
  rw [show K - 10 + 10 = K by omega] at h1
  exact ⟨t, h1, h2⟩
theorem refseal (K k : Nat) (p : ByteArray) (h1 : 1 ≤ k) (h8 : k ≤ 8) (hp : p.size ≤ 600) (hK : 7000 ≤ K) : ∃ t, samphireref09_Seal.f K (k : Int) p = some (t, 0) ∧ t.data.toList = frameL k p := by
  obtain ⟨K, rfl⟩ : ∃ K', K = K' + 1 := ⟨K - 1, by omega⟩
  obtain ⟨x, hx, hx2⟩ := refnum_k K p.size (by omega) (by omega)
  have hxl : x.size ≤ 10 := by rw [size_list, hx2]; exact vi_len _ 9 (Nat.lt_of_le_of_lt hp (by decide))
  have hs : (strOfNums [1, (k : Int) % 256]).data.toList = [1, UInt8.ofNat k] := by
    rw [strOfNums_data]; simp only [List.map_cons, List.map_nil]; rw [show ((k : Int) % 256).toNat = k by omega]; rfl
  have hz : (strOfNums [1, (k : Int) % 256]).size = 2 := strOfNums_size _
  have hA : ((((⟨#[83, 77, 80, 72]⟩ : ByteArray) ++ strOfNums [1, (k : Int) % 256]) ++ x) ++ p).data.toList = head k p := by
    rw [app_list, app_list, app_list, hs, hx2]; simp [head]
  have hA6 : ((⟨#[83, 77, 80, 72]⟩ : ByteArray) ++ strOfNums [1, (k : Int) % 256]).size = 6 := by rw [ByteArray.size_append, hz]; rfl
  have hA7 : (((⟨#[83, 77, 80, 72]⟩ : ByteArray) ++ strOfNums [1, (k : Int) % 256]) ++ x).size = 6 + x.size := by rw [ByteArray.size_append, hA6]
  have hA8 : ((((⟨#[83, 77, 80, 72]⟩ : ByteArray) ++ strOfNums [1, (k : Int) % 256]) ++ x) ++ p).size = 6 + x.size + p.size := by rw [ByteArray.size_append, hA7]
  obtain ⟨t, ht, ht2⟩ := refsum K ((((⟨#[83, 77, 80, 72]⟩ : ByteArray) ++ strOfNums [1, (k : Int) % 256]) ++ x) ++ p) (by omega) (by omega)
  have ht4 : t.size = 4 := by rw [size_list, ht2]; rfl
  rw [hA] at ht2
  unfold samphireref09_Seal.f
  rw [if_neg (by omega), decide_eq_false (by omega), samphireref09_Seal.j0, if_neg (by decide), if_neg (by omega), Option.bind_some, if_pos (by rw [hz]; omega), wraps_u64 _ (by omega) (by omega), hx, Option.bind_some, if_pos (by rw [hA6]; omega), if_pos (by rw [hA7]; omega), ht, Option.bind_some, if_pos (by rw [hA8, ht4]; omega)]
  exact ⟨_, rfl, by rw [app_list, hA, ht2]; rfl⟩
theorem refseal_arg (K : Nat) (a : Int) (p : ByteArray) (h : a < 1 ∨ a > 8) : samphireref09_Seal.f (K + 1) a p = some (⟨#[]⟩, 1) := by
  have hj : ∀ b, b = true → samphireref09_Seal.j0 (K + 1) a p b = some (⟨#[]⟩, 1) := fun b h => by
    rw [h, samphireref09_Seal.j0, if_pos rfl]
  unfold samphireref09_Seal.f
  rcases h with h | h
  · rw [if_pos h]; exact hj _ rfl
  · rw [if_neg (by omega)]; exact hj _ (decide_eq_true h)
end Go.Proofs.Ytjmcdnhbiamokaa.Pure
