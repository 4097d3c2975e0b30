/- Frames over lists: what Seal makes, what Open tells. -/
import Derived.Test.YtjmcdnhbiamokaaPureN
import Derived.Test.YtjmcdnhbiamokaaQx1
namespace Go.Proofs.Ytjmcdnhbiamokaa.Pure
open Go.RowKit Go.Proofs.Ytjmcdnhbiamokaa.Q Go.Proofs.YtjmcdnhbiamokaaW.PrintWords Go.Proofs.YtjmcdnhbiamokaaW.PrintLast
set_option linter.unusedVariables false
set_option linter.unusedSimpArgs false
theorem mono_add {α : Type} {f : Nat → Option α} (h : ∀ k, LeO (f k) (f (k + 1))) {k : Nat} {r : α} (h1 : f k = some r) : ∀ d, f (k + d) = some r := by
  intro d
  induction d with
  | zero => exact h1
  | succ d ih => exact h (k + d) r ih
theorem mono_le {α : Type} {f : Nat → Option α} (h : ∀ k, LeO (f k) (f (k + 1))) {k m : Nat} {r : α} (h1 : f k = some r) (hm : k ≤ m) : f m = some r := by
  obtain ⟨d, rfl⟩ : ∃ d, m = k + d := ⟨m - k, by omega⟩
  exact mono_add h h1 d
theorem ba_ext {a b : ByteArray} (h : a.data.toList = b.data.toList) : a = b := ByteArray.ext (Array.toList_inj.1 h)
theorem app_list (a b : ByteArray) : (a ++ b).data.toList = a.data.toList ++ b.data.toList := by simp
theorem mk_list (l : List UInt8) : (ByteArray.mk l.toArray).data.toList = l := rfl
theorem size_list (a : ByteArray) : a.size = a.data.toList.length := by simp
/-- The sum of a text, in four bytes. -/
def sum4 (l : List UInt8) : List UInt8 :=
  let n := CrcPure.more 0 (l.map (·.toNat))
  [UInt8.ofNat (n % 256), UInt8.ofNat (n / 256 % 256), UInt8.ofNat (n / 65536 % 256), UInt8.ofNat (n / 16777216 % 256)]
theorem sum4_len (l : List UInt8) : (sum4 l).length = 4 := rfl
def head (k : Nat) (p : ByteArray) : List UInt8 := 83 :: 77 :: 80 :: 72 :: 1 :: UInt8.ofNat k :: (vi p.size ++ p.data.toList)
def frameL (k : Nat) (p : ByteArray) : List UInt8 := head k p ++ sum4 (head k p)
theorem nums4 (n : Nat) : (strOfNums [((n : Nat) : Int) % 256, ((n : Nat) : Int) / 256 % 256, ((n : Nat) : Int) / 65536 % 256, ((n : Nat) : Int) / 16777216 % 256]).data.toList = [UInt8.ofNat (n % 256), UInt8.ofNat (n / 256 % 256), UInt8.ofNat (n / 65536 % 256), UInt8.ofNat (n / 16777216 % 256)] := by
  rw [strOfNums_data]
  simp only [List.map_cons, List.map_nil]
  rw [show (((n : Nat) : Int) % 256).toNat = n % 256 by omega, show (((n : Nat) : Int) / 256 % 256).toNat = n / 256 % 256 by omega, show (((n : Nat) : Int) / 65536 % 256).toNat = n / 65536 % 256 by omega, show (((n : Nat) : Int) / 16777216 % 256).toNat = n / 16777216 % 256 by omega]
theorem sealed_list (a : ByteArray) (h : a.size ≤ 140737488351232) : ∃ t, frame_sealed.f a = some t ∧ t.data.toList = a.data.toList ++ sum4 a.data.toList := by
  unfold frame_sealed.f crc_Sum.f
  rw [if_pos h, Option.bind_some, Option.bind_some]
  have h4 : (strOfNums [((CrcPure.more 0 (bs a) : Nat) : Int) % 256, ((CrcPure.more 0 (bs a) : Nat) : Int) / 256 % 256, ((CrcPure.more 0 (bs a) : Nat) : Int) / 65536 % 256, ((CrcPure.more 0 (bs a) : Nat) : Int) / 16777216 % 256]).size = 4 := strOfNums_size _
  rw [if_pos (by rw [h4]; omega)]
  refine ⟨_, rfl, ?_⟩
  rw [app_list, nums4]
  rfl
theorem psealed_eq (a : ByteArray) : P.frame_sealed.f a = frame_sealed.f a := rfl
theorem or_top : ∀ a : Nat, a < 256 → a ||| 128 = a % 128 + 128 := by decide +kernel
theorem number_list : ∀ (K n : Nat) (acc : List Int), n < 2 ^ (7 * (K + 1)) → acc.length + K ≤ 1000 → ∃ t, wire_Number.l0 (K + 1) (n : Int) acc = some t ∧ t.data.toList = acc.map (fun n => UInt8.ofNat n.toNat) ++ vi n := by
  intro K
  induction K with
  | zero =>
    intro n acc hn ha
    have hn2 : n < 128 := by simpa using hn
    unfold wire_Number.l0
    rw [if_neg (by omega), if_pos (by omega)]
    refine ⟨_, rfl, ?_⟩
    rw [strOfNums_data, List.map_append, vi_small hn2]
    simp only [List.map_cons, List.map_nil]
    rw [show ((n : Int) % 256).toNat = n by omega]
  | succ K ih =>
    intro n acc hn ha
    unfold wire_Number.l0
    by_cases hs : n < 128
    · rw [if_neg (by omega), if_pos (by omega)]
      refine ⟨_, rfl, ?_⟩
      rw [strOfNums_data, List.map_append, vi_small hs]
      simp only [List.map_cons, List.map_nil]
      rw [show ((n : Int) % 256).toNat = n by omega]
    · rw [if_pos (by omega), if_pos (by omega)]
      have hd : n / 128 < 2 ^ (7 * (K + 1)) := by
        rw [Nat.div_lt_iff_lt_mul (by decide)]
        rw [show 7 * (K + 1 + 1) = 7 * (K + 1) + 7 by omega, Nat.pow_add] at hn
        exact hn
      have hb : Go.bits .or .u8 ((n : Int) % 256) 128 = ((n % 128 + 128 : Nat) : Int) := by
        have h := u8_or_nat (n % 256) 128 (by omega) (by decide)
        rw [or_top _ (by omega), show n % 256 % 128 = n % 128 by omega] at h
        rw [show ((n % 256 : Nat) : Int) = (n : Int) % 256 by omega] at h
        exact h
      obtain ⟨t, h1, h2⟩ := ih (n / 128) (acc ++ [((n % 128 + 128 : Nat) : Int)]) hd (by rw [List.length_append, List.length_singleton]; omega)
      rw [hb, show (n : Int) / 128 = ((n / 128 : Nat) : Int) by omega]
      refine ⟨t, h1, ?_⟩
      rw [h2, vi_big hs, List.map_append, List.map_cons, List.map_nil, Int.toNat_natCast, List.append_assoc]
      rfl
theorem number_f (K n : Nat) (hn : n < 18446744073709551616) : ∃ t, wire_Number.f (K + 10) (n : Int) = some t ∧ t.data.toList = vi n := by
  obtain ⟨t, h1, h2⟩ := number_list 9 n [] (Nat.lt_of_lt_of_le hn (by decide)) (by simp)
  exact ⟨t, mono_le (f := fun k => wire_Number.f k (n : Int)) (fun k => wire_Number.mono _ k) h1 (by omega), by simpa using h2⟩
theorem vi_len (n : Nat) : ∀ K, n < 2 ^ (7 * (K + 1)) → (vi n).length ≤ K + 1 := by
  intro K
  induction K generalizing n with
  | zero => intro h; rw [vi_small (by simpa using h)]; simp
  | succ K ih =>
    intro h
    by_cases hs : n < 128
    · rw [vi_small hs]; simp
    · rw [vi_big hs, List.length_cons]
      have := ih (n / 128) (by
        rw [Nat.div_lt_iff_lt_mul (by decide)]
        rw [show 7 * (K + 1 + 1) = 7 * (K + 1) + 7 by omega, Nat.pow_add] at h
        exact h)
      omega
theorem text_f (K : Nat) (p : ByteArray) (hp : p.size ≤ 140737488351232) : ∃ t, wire_Text.f (K + 10) p = some t ∧ t.data.toList = vi p.size ++ p.data.toList := by
  obtain ⟨t, h1, h2⟩ := number_f K p.size (by omega)
  have hl : t.size ≤ 10 := by rw [size_list, h2]; exact vi_len _ 9 (Nat.lt_of_le_of_lt hp (by decide))
  unfold wire_Text.f
  rw [wraps_u64 _ (by omega) (by omega), h1, Option.bind_some, if_pos (by omega)]
  exact ⟨_, rfl, by rw [app_list, h2]⟩
theorem seal_f (K k : Nat) (p : ByteArray) (h1 : 1 ≤ k) (h8 : k ≤ 8) (hp : p.size ≤ 65536) : ∃ t, frame_Seal.f (K + 11) (k : Int) p = some (t, 0) ∧ t.data.toList = frameL k p := by
  obtain ⟨x, hx, hx2⟩ := text_f K p (by omega)
  have hxl : x.size ≤ 65546 := by
    have := vi_len p.size 9 (Nat.lt_of_le_of_lt hp (by decide))
    have e : p.data.toList.length = p.size := by simp
    rw [size_list, hx2, List.length_append]; omega
  have hj : ∀ b, b = false → frame_Seal.j0 (K + 11) (k : Int) p b = frame_Seal.j0 (K + 11) (k : Int) p false := fun b h => by rw [h]
  have hs : (strOfNums [(k : Int) % 256]).data.toList = [UInt8.ofNat k] := by
    rw [strOfNums_data]; simp only [List.map_cons, List.map_nil]; rw [show ((k : Int) % 256).toNat = k by omega]
  have hz : (strOfNums [(k : Int) % 256]).size = 1 := strOfNums_size _
  have hA : (((⟨#[83, 77, 80, 72, 1]⟩ : ByteArray) ++ strOfNums [(k : Int) % 256]) ++ x).data.toList = head k p := by
    rw [app_list, app_list, hs, hx2]; rfl
  have hA6 : ((⟨#[83, 77, 80, 72, 1]⟩ : ByteArray) ++ strOfNums [(k : Int) % 256]).size = 6 := by rw [ByteArray.size_append, hz]; rfl
  obtain ⟨t, ht, ht2⟩ := sealed_list (((⟨#[83, 77, 80, 72, 1]⟩ : ByteArray) ++ strOfNums [(k : Int) % 256]) ++ x) (by rw [ByteArray.size_append, hA6]; omega)
  rw [hA] at ht2
  unfold frame_Seal.f
  rw [if_neg (by omega), hj _ (decide_eq_false (by omega))]
  rw [show K + 11 = (K + 10) + 1 from rfl, frame_Seal.j0]
  rw [if_neg (by decide), if_neg (by omega), Option.bind_some, if_pos (by rw [hz]; omega), hx, Option.bind_some, if_pos (by rw [hA6]; omega), ht]
  exact ⟨t, rfl, ht2⟩
/-- What Seal makes of what is no kind. -/
theorem seal_arg (K : Nat) (a : Int) (p : ByteArray) (h : a < 1 ∨ a > 8) : frame_Seal.f (K + 11) a p = some (⟨#[]⟩, 1) := by
  have hj : ∀ b, b = true → frame_Seal.j0 (K + 11) a p b = some (⟨#[]⟩, 1) := fun b h => by
    rw [h, show K + 11 = (K + 10) + 1 from rfl, frame_Seal.j0, if_pos rfl]
  unfold frame_Seal.f
  rcases h with h | h
  · rw [if_pos h]; exact hj _ rfl
  · rw [if_neg (by omega)]; exact hj _ (decide_eq_true h)
/-- Is this a frame's form: a kind, a payload, four bytes behind? -/
structure Form (L : List UInt8) (k : Nat) (p : ByteArray) (t : List UInt8) : Prop where
  kind1 : 1 ≤ k
  kind8 : k ≤ 8
  size : p.size ≤ 65536
  four : t.length = 4
  list : L = head k p ++ t
theorem rest_head {s : ByteArray} {l : List UInt8} (h : s.data.toList = magicL ++ l) : (restOf s).data.toList = l ∧ Lib.hasPrefix s.data.toList magicL = true := by
  have hp : Lib.hasPrefix s.data.toList magicL = true := by
    rw [h]; unfold Lib.hasPrefix; simp
  refine ⟨?_, hp⟩
  show Lib.trimPrefix s.data.toList magicL = l
  unfold Lib.trimPrefix
  rw [if_pos hp, h, List.drop_left]
theorem open_form {s : ByteArray} {k : Nat} {p : ByteArray} {t : List UInt8} (hz : s.size ≤ 140737488351232) (F : Form s.data.toList k p t) : openF s = if t = sum4 (head k p) then some ((k : Int), p, 0) else some (0, ⟨#[]⟩, 11) := by
  obtain ⟨h1, h8, hp, h4, hL⟩ := F
  obtain ⟨hr, hpre⟩ := rest_head (s := s) (l := UInt8.ofNat k :: (vi p.size ++ (p.data.toList ++ t))) (by rw [hL]; simp [head, magicL])
  have hrs : (restOf s).size = 1 + (vi p.size).length + p.size + 4 := by
    rw [size_list, hr]; simp [h4]; omega
  have hf : firstOf (restOf s) = k := by
    unfold firstOf; rw [hr]; exact u8_nat (by omega)
  have ht := textF_vi (s := restOf s) (p := p) (a := 1) (most := 65536) (rest := t) (by rw [hr]; rfl) hp (by omega)
  unfold openF
  rw [if_pos ⟨hpre, by omega, by omega, by omega⟩, ht]
  dsimp only
  rw [if_pos hrs]
  have hss : s.size = (head k p).length + 4 := by rw [size_list, hL, List.length_append, h4]
  have he : (s.extract 0 (s.size - 4)).data.toList = head k p := by
    rw [ByteArray.data_extract, Array.toList_extract, List.extract_eq_take_drop, hL, hss]
    simp
  obtain ⟨u, hu, hu2⟩ := sealed_list (s.extract 0 (s.size - 4)) (by rw [ByteArray.size_extract]; omega)
  rw [psealed_eq, hu, Option.bind_some, hf]
  rw [he] at hu2
  have hiff : (u = s) ↔ t = sum4 (head k p) := by
    constructor
    · rintro rfl
      rw [hu2] at hL
      exact (List.append_cancel_left hL).symm
    · intro h
      apply ba_ext
      rw [hu2, hL, h]
  by_cases hc : t = sum4 (head k p)
  · rw [if_pos hc, if_pos (hiff.2 hc)]
  · rw [if_neg hc, if_neg (fun h => hc (hiff.1 h))]
theorem form_of {s p : ByteArray} {b : Nat} (h1 : Lib.hasPrefix s.data.toList magicL = true) (h2 : 0 < (restOf s).size) (h3 : 1 ≤ firstOf (restOf s)) (h4 : firstOf (restOf s) ≤ 8) (ht : textF (restOf s) 1 65536 = some (p, b)) (hb : (restOf s).size = b + 4) :
    ∃ t, Form s.data.toList (firstOf (restOf s)) p t := by
  obtain ⟨hp, rfl, _, rest, hd⟩ := textF_inv ht
  have hpre : magicL <+: s.data.toList := by
    unfold Lib.hasPrefix at h1; exact List.isPrefixOf_iff_prefix.1 h1
  obtain ⟨l, hl⟩ := hpre
  obtain ⟨hr, _⟩ := rest_head hl.symm
  rw [size_list, hr] at h2
  cases l with
  | nil => simp at h2
  | cons c l =>
    have hc : UInt8.ofNat (firstOf (restOf s)) = c := by
      unfold firstOf; rw [hr]; simp
    rw [hr] at hd
    have hd2 : l = vi p.size ++ (p.data.toList ++ rest) := hd
    refine ⟨rest, h3, h4, hp, ?_, ?_⟩
    · rw [size_list, hr, hd2] at hb
      simp at hb; omega
    · rw [← hl, hd2]
      unfold head magicL
      rw [hc]; simp
theorem open_no {s : ByteArray} (h : ∀ k p t, ¬ Form s.data.toList k p t) : openF s = some (0, ⟨#[]⟩, 2) := by
  unfold openF
  by_cases hc : Lib.hasPrefix s.data.toList magicL = true ∧ 0 < (restOf s).size ∧ 1 ≤ firstOf (restOf s) ∧ firstOf (restOf s) ≤ 8
  · rw [if_pos hc]
    cases ht : textF (restOf s) 1 65536 with
    | none => rfl
    | some r =>
      obtain ⟨p, b⟩ := r
      dsimp only
      by_cases hb : (restOf s).size = b + 4
      · obtain ⟨t, F⟩ := form_of hc.1 hc.2.1 hc.2.2.1 hc.2.2.2 ht hb
        exact absurd F (h _ _ _)
      · rw [if_neg hb]
  · rw [if_neg hc]
/-- The same, as the walks ask it. -/
theorem open_f {s : ByteArray} (hz : s.size ≤ 140737488351232) : frame_Open.f s = openF s := if_pos hz
theorem frame_form (k : Nat) (p : ByteArray) (h1 : 1 ≤ k) (h8 : k ≤ 8) (hp : p.size ≤ 65536) : Form (frameL k p) k p (sum4 (head k p)) := ⟨h1, h8, hp, rfl, rfl⟩
theorem open_frame {s : ByteArray} {k : Nat} {p : ByteArray} (hz : s.size ≤ 140737488351232) (h1 : 1 ≤ k) (h8 : k ≤ 8) (hp : p.size ≤ 65536) (h : s.data.toList = frameL k p) : frame_Open.f s = some ((k : Int), p, 0) := by
  rw [open_f hz, open_form hz (h ▸ frame_form k p h1 h8 hp), if_pos rfl]
theorem awake_k : samphirelaw09_awake.f 12 = some true := by decide +kernel
theorem awake_f (K : Nat) : samphirelaw09_awake.f (K + 12) = some true := mono_le (f := samphirelaw09_awake.f) (fun k => samphirelaw09_awake.mono k) awake_k (by omega)
end Go.Proofs.Ytjmcdnhbiamokaa.Pure
