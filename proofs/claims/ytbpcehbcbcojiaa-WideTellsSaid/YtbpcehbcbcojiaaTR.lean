import Derived.Test.YtbpcehbcbcojiaaM
import Derived.Test.YtbpcehbcbcojiaaPureT
import Derived.Test.YtbpcehbcbcojiaaTx4
import Derived.Test.YtbpcehbcbcojiaaTx6
namespace Go.Proofs.Ytbpcehbcbcojiaa
open Go.RowKit Go.Proofs.YtbpcehbcbcojiaaW.PrintWords Go.Proofs.YtbpcehbcbcojiaaW.PrintLast Go.Proofs.YtbpcehbcbcojiaaW.PrintMore
open Dec
set_option linter.unusedVariables false
def bs (s : ByteArray) : List Nat := s.data.toList.map (·.toNat)
theorem bs_len (s : ByteArray) : (bs s).length = s.size := by unfold bs; rw [List.length_map, Array.length_toList]; rfl
theorem bs_lt (s : ByteArray) : ∀ c ∈ bs s, c < 256 := by
 intro c hc; simp only [bs, List.mem_map] at hc; obtain ⟨x, _, rfl⟩ := hc; exact x.toNat_lt
theorem bt_bs (s : ByteArray) (i : Nat) (h : i < s.size) : bt s (i : Int) = (((bs s).getD i 0 : Nat) : Int) := by
 unfold bt
 rw [Int.toNat_natCast, dif_pos h]
 congr 1
 have : (bs s)[i]? = some (s[i].toNat) := by
  rw [List.getElem?_eq_getElem (by rw [bs_len]; exact h)]; simp [bs]; rfl
 simp [List.getD, this]
def str (l : List Nat) : ByteArray := strOfNums (l.map fun n : Nat => (n : Int))
def text (n : Nat) : List Nat := (digs n).map (48 + ·)
def M128 : Nat := 340282366920938463463374607431768211456
theorem digs_len39 {n : Nat} (h : n < M128) : (digs n).length ≤ 39 := (digs_len n 38).2 (Nat.lt_of_lt_of_le h (by decide))
theorem in64_nat {n : Nat} (h : W64 n) : in64 (n : Int) := ⟨by omega, by omega⟩
theorem val_nat (h l : Nat) : val (h : Int) (l : Int) = V h l := rfl
theorem val_HILO (n : Nat) : val ((HI n : Nat) : Int) ((LO n : Nat) : Int) = n := V_HILO n
theorem of_f (n : Nat) (h : W64 n) : Q.wide_Of.f (n : Int) = some (0, (n : Int)) := by unfold Q.wide_Of.f; rw [if_pos (in64_nat h)]
theorem div_f (n : Nat) (h : n < M128) : Q.wide_Div.f ((HI n : Nat) : Int) ((LO n : Nat) : Int) 0 10 = some (((HI (n / 10) : Nat) : Int), ((LO (n / 10) : Nat) : Int), ((HI (n % 10) : Nat) : Int), ((LO (n % 10) : Nat) : Int), true) := by
 unfold Q.wide_Div.f
 rw [if_pos ⟨in64_nat (HI_lt h), in64_nat (LO_lt n), by decide, by decide⟩, val_HILO]
 rw [show val 0 10 = 10 from rfl]
 unfold Q.quo
 rw [if_neg (by decide)]
theorem text_loop (n : Nat) : ∀ (out : List Nat) (k : Nat), n < M128 → (digs n).length < k → out.length + (digs n).length ≤ 1000 →
  T.wide_Text.l0 k (out.map fun n : Nat => (n : Int)) ((HI n : Nat) : Int) ((LO n : Nat) : Int) = some (str (text n ++ out)) := by
 induction n using digs.induct with
 | case1 n h =>
  intro out k hn hk hl
  obtain ⟨k, rfl⟩ : ∃ j, k = j + 1 := ⟨k - 1, by omega⟩
  simp only [T.wide_Text.l0]
  refine D.bnd (of_f 10 (by decide)) ?_
  refine D.bnd (div_f n hn) ?_
  dsimp only
  refine D.bnd rfl ?_
  rw [if_pos (by simp; omega)]
  refine D.bnd rfl ?_
  rw [show n / 10 = 0 by omega]
  rw [if_pos (by decide)]
  rw [show text n = [48 + n] by unfold text; rw [digs_lt h]; rfl]
  unfold str
  congr 2
  rw [List.map_append, List.map_cons, List.map_nil]
  congr 2
  unfold LO; omega
 | case2 n h ih =>
  intro out k hn hk hl
  rw [digs_ge h] at hk hl
  rw [List.length_append] at hk hl
  simp only [List.length_cons, List.length_nil] at hk hl
  obtain ⟨k, rfl⟩ : ∃ j, k = j + 1 := ⟨k - 1, by omega⟩
  simp only [T.wide_Text.l0]
  refine D.bnd (of_f 10 (by decide)) ?_
  refine D.bnd (div_f n hn) ?_
  dsimp only
  refine D.bnd rfl ?_
  rw [if_pos (by simp; omega)]
  refine D.bnd rfl ?_
  rw [if_neg]
  ·
   have IH := ih ((48 + n % 10) :: out) k (Nat.lt_of_le_of_lt (Nat.div_le_self _ _) hn) (by omega) (by simp; omega)
   have e : text n ++ out = text (n / 10) ++ (48 + n % 10) :: out := by
    unfold text; rw [digs_ge h, List.map_append, List.append_assoc]; rfl
   rw [e, ← IH]
   congr 1
   rw [List.map_cons]
   show [_] ++ _ = _
   rw [List.singleton_append]
   congr 1
   unfold LO; omega
  ·
   have : n / 10 ≠ 0 := by omega
   intro hc
   simp only [Bool.and_eq_true, beq_iff_eq] at hc
   apply this
   have h1 := V_HILO (n / 10)
   rw [show HI (n / 10) = 0 by omega, show LO (n / 10) = 0 by omega] at h1
   rw [← h1]; rfl
theorem text_f (n : Nat) (h : n < M128) : T.wide_Text.f 50 ((HI n : Nat) : Int) ((LO n : Nat) : Int) = some (str (text n)) := by
 have := text_loop n [] 50 h (by have := digs_len39 h; omega) (by have := digs_len39 h; simp; omega)
 rw [List.append_nil] at this
 exact this
def readL : List Nat → Nat → Option Nat
 | [], n => some n
 | c :: l, n => if c < 48 ∨ 57 < c then none else if 10 * n + (c - 48) < M128 then readL l (10 * n + (c - 48)) else none
def told (o : Option Nat) : Int × Int × Bool := match o with | some n => (((HI n : Nat) : Int), ((LO n : Nat) : Int), true) | none => (0, 0, false)
theorem read_loop (s : ByteArray) (hs : s.size < 9223372036854775807) (m : Nat) : ∀ (i k n : Nat), i + m = s.size → m < k → n < M128 →
  T.wide_Read.l0 k s (s.size : Int) (i : Int) ((HI n : Nat) : Int) ((LO n : Nat) : Int) = some (told (readL ((bs s).drop i) n)) := by
 induction m with
 | zero =>
  intro i k n hi hk hn
  obtain ⟨k, rfl⟩ : ∃ j, k = j + 1 := ⟨k - 1, by omega⟩
  simp only [T.wide_Read.l0]
  rw [if_neg (by omega), List.drop_of_length_le (by rw [bs_len]; omega)]
  rfl
 | succ m ih =>
  intro i k n hi hk hn
  obtain ⟨k, rfl⟩ : ∃ j, k = j + 1 := ⟨k - 1, by omega⟩
  have hlt : i < s.size := by omega
  have hb := bt_bs s i hlt
  have hd : (bs s).drop i = (bs s).getD i 0 :: (bs s).drop (i + 1) := by
   rw [List.drop_eq_getElem_cons (by rw [bs_len]; exact hlt)]
   congr 1
   rw [List.getD_eq_getElem?_getD, List.getElem?_eq_getElem (by rw [bs_len]; exact hlt)]; rfl
  have hc : (bs s).getD i 0 < 256 := by
   rw [List.getD_eq_getElem?_getD, List.getElem?_eq_getElem (by rw [bs_len]; exact hlt)]
   exact bs_lt s _ (List.getElem_mem _)
  rw [hd]
  generalize (bs s).getD i 0 = c at hb hc
  simp only [T.wide_Read.l0]
  rw [if_pos (by omega), if_pos (by omega), if_pos (by omega), hb]
  unfold readL
  by_cases hdig : c < 48 ∨ 57 < c
  ·
   rw [if_pos (by omega), if_pos hdig]; rfl
  ·
   rw [if_neg (by omega), if_neg hdig]
   have e : ((c : Int) - 48) % 256 = ((c - 48 : Nat) : Int) := by omega
   rw [e]
   have hmul : Q.wide_Mul.f ((HI n : Nat) : Int) ((LO n : Nat) : Int) 0 10 = some (sized (10 * n)) := by
    unfold Q.wide_Mul.f
    rw [if_pos ⟨in64_nat (HI_lt hn), in64_nat (LO_lt n), by decide, by decide⟩, val_HILO, show val 0 10 = 10 from rfl, Nat.mul_comm]
   refine D.bnd (of_f 10 (by decide)) ?_
   refine D.bnd hmul ?_
   refine D.bnd (of_f (c - 48) (by unfold W64; omega)) ?_
   have hw : wrap64 ((i : Int) + 1) = ((i + 1 : Nat) : Int) := by unfold wrap64; omega
   by_cases h1 : 10 * n < M128
   ·
    have es : sized (10 * n) = (((HI (10 * n) : Nat) : Int), ((LO (10 * n) : Nat) : Int), true) := by unfold sized; exact if_pos h1
    rw [es]
    dsimp only
    have hadd : Q.wide_Add.f ((HI (10 * n) : Nat) : Int) ((LO (10 * n) : Nat) : Int) 0 ((c - 48 : Nat) : Int) = some (sized (10 * n + (c - 48))) := by
     unfold Q.wide_Add.f
     rw [if_pos ⟨in64_nat (HI_lt h1), in64_nat (LO_lt _), by decide, in64_nat (by unfold W64; omega)⟩, val_HILO, show val 0 ((c - 48 : Nat) : Int) = c - 48 by unfold val V; simp]
    refine D.bnd hadd ?_
    rw [if_pos rfl]
    by_cases h2 : 10 * n + (c - 48) < M128
    ·
     have es2 : sized (10 * n + (c - 48)) = (((HI (10 * n + (c - 48)) : Nat) : Int), ((LO (10 * n + (c - 48)) : Nat) : Int), true) := by unfold sized; exact if_pos h2
     rw [es2, if_pos h2]
     dsimp only
     rw [if_pos rfl, hw]
     exact ih (i + 1) k _ (by omega) (by omega) h2
    ·
     have es2 : sized (10 * n + (c - 48)) = (0, 0, false) := by unfold sized; exact if_neg h2
     rw [es2, if_neg h2]
     dsimp only
     rw [if_neg (by decide)]; rfl
   ·
    have es : sized (10 * n) = (0, 0, false) := by unfold sized; exact if_neg h1
    rw [es, if_neg (by omega)]
    dsimp only
    have hadd : Q.wide_Add.f 0 0 0 ((c - 48 : Nat) : Int) = some (sized (c - 48)) := by
     unfold Q.wide_Add.f
     rw [if_pos ⟨by decide, by decide, by decide, in64_nat (by unfold W64; omega)⟩, show val 0 0 = 0 from rfl, show val 0 ((c - 48 : Nat) : Int) = c - 48 by unfold val V; simp, Nat.zero_add]
    refine D.bnd hadd ?_
    rw [if_neg (by decide)]; rfl
def read (l : List Nat) : Option Nat := if l = [] ∨ l.head? = some 48 ∧ 1 < l.length then none else readL l 0
theorem read_f (s : ByteArray) (hs : s.size < 9223372036854775807) (k : Nat) (hk : s.size + 1 < k) : T.wide_Read.f k s = some (told (read (bs s))) := by
 obtain ⟨k, rfl⟩ : ∃ j, k = j + 1 := ⟨k - 1, by omega⟩
 have hL := read_loop s hs s.size 0 k 0 (by omega) (by omega) (by decide)
 rw [List.drop_zero] at hL
 unfold T.wide_Read.f read
 have hnil : s.toList = [] ↔ s.size = 0 := by
  have : s.toList = s.data.toList := Lib.toList_data s
  rw [this]
  exact ⟨fun h => by have := congrArg List.length h; rw [Array.length_toList] at this; exact this, fun h => List.eq_nil_of_length_eq_zero (by rw [Array.length_toList]; exact h)⟩
 by_cases h0 : s.size = 0
 ·
  rw [if_pos (hnil.2 h0), if_pos (Or.inl (List.eq_nil_of_length_eq_zero (by rw [bs_len]; exact h0)))]
  simp only [T.wide_Read.j0]
  rw [if_pos trivial]; rfl
 ·
  rw [if_neg (fun h => h0 (hnil.1 h)), if_pos (by omega)]
  have hb := bt_bs s 0 (by omega)
  rw [show ((0 : Nat) : Int) = 0 from rfl] at hb
  have hne : bs s ≠ [] := fun h => h0 (by rw [← bs_len, h]; rfl)
  have hh : (bs s).head? = some ((bs s).getD 0 0) := by
   cases hx : bs s with
   | nil => exact absurd hx hne
   | cons a l => rfl
  rw [hb, hh]
  by_cases h48 : (bs s).getD 0 0 = 48
  ·
   rw [if_pos (by omega)]
   by_cases h1 : 1 < s.size
   ·
    rw [if_pos (Or.inr ⟨by rw [h48], by rw [bs_len]; exact h1⟩)]
    simp only [T.wide_Read.j0]
    rw [if_pos (decide_eq_true (by omega))]; rfl
   ·
    rw [if_neg (by rintro (h | ⟨_, h⟩); exact hne h; rw [bs_len] at h; exact h1 h)]
    simp only [T.wide_Read.j0]
    rw [if_neg (by rw [decide_eq_true_iff]; omega)]
    exact hL
  ·
   rw [if_neg (by omega), if_neg (by rintro (h | ⟨h, _⟩); exact hne h; exact h48 (Option.some.inj h))]
   simp only [T.wide_Read.j0]
   rw [if_neg (by decide)]
   exact hL
end Go.Proofs.Ytbpcehbcbcojiaa
