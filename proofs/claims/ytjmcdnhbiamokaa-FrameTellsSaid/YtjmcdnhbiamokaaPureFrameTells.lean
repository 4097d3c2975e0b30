/- The law FrameTells over plain functions: the frame of any payload, and what is in any bytes, or that they are refused, are as the document says. -/
import Derived.Test.YtjmcdnhbiamokaaPureU
namespace Go.Proofs.Ytjmcdnhbiamokaa.Pure
open Go.RowKit Go.Proofs.Ytjmcdnhbiamokaa.Q Go.Proofs.YtjmcdnhbiamokaaW.PrintWords Go.Proofs.YtjmcdnhbiamokaaW.PrintLast
set_option linter.unusedVariables false
set_option linter.unusedSimpArgs false
theorem w64 {x y : Int} (h0 : 0 ≤ x) (h1 : x < 9223372036854775808) (h : x = y) : wrap64 x = y := by subst h; unfold wrap64; omega
theorem rest6 (s : ByteArray) (h : 6 ≤ s.size) : samphireref08_rest.f s 6 false = some (s.extract 6 s.size, true) := by
  unfold samphireref08_rest.f
  rw [if_neg (by decide), if_neg (by decide), if_neg (by omega), if_pos (by decide), if_pos (by omega)]
  rfl
theorem mid_list (r : ByteArray) (a b : Nat) : (r.extract a b).data.toList = (r.data.toList.drop a).take (b - a) := by
  rw [ByteArray.data_extract, Array.toList_extract, List.extract_eq_take_drop]
theorem read_vi (K : Nat) (s p : ByteArray) (u : List UInt8) (hz : s.size ≤ 140737488351232) (h6 : 6 ≤ s.size) (hp : p.size ≤ 65536) (hs : s.data.toList.drop 6 = vi p.size ++ (p.data.toList ++ u)) (hK : 40 ≤ K) :
    samphireref08_ReadText.f K s 6 false 65536 = some (p, s, ((6 + (vi p.size).length + p.size : Nat) : Int), false) := by
  have hr : (s.extract 6 s.size).data.toList = vi p.size ++ (p.data.toList ++ u) := by rw [extract_drop, hs]
  have hrz : (s.extract 6 s.size).size = s.size - 6 := by rw [ByteArray.size_extract]; omega
  have hl := congrArg List.length hr
  have e1 : p.data.toList.length = p.size := by simp
  rw [← size_list, List.length_append, List.length_append, e1] at hl
  have hv := vi_pos p.size
  have hrd := refread_f (s.extract 6 s.size) K p.size (p.data.toList ++ u) (by omega) (by omega) hr hK
  unfold samphireref08_ReadText.f
  rw [rest6 s h6, Option.bind_some]
  dsimp only
  rw [hrd, Option.bind_some]
  dsimp only
  have w1' := Lib.hid (show wrap64 (((s.extract 6 s.size).size : Int) - ((vi p.size).length : Int)) = ((s.extract 6 s.size).size : Int) - ((vi p.size).length : Int) from w64 (by omega) (by omega) (by omega))
  have w2' := Lib.hid (show wrap64 (p.size : Int) = (p.size : Int) from w64 (by omega) (by omega) (by omega))
  have w3' := Lib.hid (show wrap64 (((vi p.size).length : Int) + (p.size : Int)) = (((vi p.size).length + p.size : Nat) : Int) from w64 (by omega) (by omega) (by omega))
  have w4' := Lib.hid (show wrap64 (wrap64 (6 + ((vi p.size).length : Int)) + (p.size : Int)) = ((6 + (vi p.size).length + p.size : Nat) : Int) from by rw [w64 (x := 6 + ((vi p.size).length : Int)) (by omega) (by omega) rfl]; exact w64 (by omega) (by omega) (by omega))
  rw [w1'.out, w2'.out, w3'.out, w4'.out]
  rw [if_pos rfl, if_neg (by omega), if_neg (by decide), wraps_u64 65536 (by decide) (by decide), if_neg (by omega), wraps_u64 _ (by omega) (by omega), if_neg (by omega), if_pos (by omega), if_pos (by omega), if_pos (by omega)]
  congr 2
  apply ba_ext
  rw [mid_list, Int.toNat_natCast, Int.toNat_natCast, hr, List.drop_left, show (vi p.size).length + p.size - (vi p.size).length = p.data.toList.length by omega, List.take_left]
theorem read_any (K : Nat) (s : ByteArray) (hz : s.size ≤ 140737488351232) (h6 : 6 ≤ s.size) (hK : 40 ≤ K) :
    ∃ (q : ByteArray) (at_ : Int) (lost : Bool), samphireref08_ReadText.f K s 6 false 65536 = some (q, s, at_, lost) ∧
      (lost = true ∨ ∃ u, q.size ≤ 65536 ∧ at_ = ((6 + (vi q.size).length + q.size : Nat) : Int) ∧ s.data.toList.drop 6 = vi q.size ++ (q.data.toList ++ u)) := by
  have hr : (s.extract 6 s.size).data.toList = s.data.toList.drop 6 := extract_drop s 6
  have hrz : (s.extract 6 s.size).size = s.size - 6 := by rw [ByteArray.size_extract]; omega
  obtain ⟨res, hrd, hok⟩ := refread_ok (s.extract 6 s.size) K (by omega) hK
  unfold samphireref08_ReadText.f
  rw [rest6 s h6, Option.bind_some]
  dsimp only
  rw [hrd, Option.bind_some]
  have gone : ∃ (q : ByteArray) (at_ : Int) (lost : Bool), ((samphireref08_gone.f s 6 false).bind fun bt => some ((⟨#[]⟩ : ByteArray), bt.1, bt.2.1, bt.2.2)) = some (q, s, at_, lost) ∧
      (lost = true ∨ ∃ u, q.size ≤ 65536 ∧ at_ = ((6 + (vi q.size).length + q.size : Nat) : Int) ∧ s.data.toList.drop 6 = vi q.size ++ (q.data.toList ++ u)) := ⟨_, _, _, rfl, .inl rfl⟩
  rcases hok with rfl | ⟨v, j, rfl, hj0, hj, hv, hvj⟩
  · dsimp only
    rw [if_pos rfl, if_pos rfl]; exact gone
  · dsimp only
    rw [if_pos rfl, if_neg (by omega), if_neg (by decide), wraps_u64 65536 (by decide) (by decide)]
    by_cases h1 : (v : Int) > 65536
    · rw [if_pos h1]; exact gone
    · have w1' := Lib.hid (show wrap64 (((s.extract 6 s.size).size : Int) - (j : Int)) = (((s.extract 6 s.size).size - j : Nat) : Int) from w64 (by omega) (by omega) (by omega))
      rw [if_neg h1, w1'.out, wraps_u64 _ (by omega) (by omega)]
      by_cases h2 : (v : Int) > (((s.extract 6 s.size).size - j : Nat) : Int)
      · rw [if_pos h2]; exact gone
      · have w2' := Lib.hid (show wrap64 (v : Int) = (v : Int) from w64 (by omega) (by omega) (by omega))
        have w3' := Lib.hid (show wrap64 ((j : Int) + (v : Int)) = ((j + v : Nat) : Int) from w64 (by omega) (by omega) (by omega))
        have w4' := Lib.hid (show wrap64 (wrap64 (6 + (j : Int)) + (v : Int)) = ((6 + j + v : Nat) : Int) from by rw [w64 (x := 6 + (j : Int)) (by omega) (by omega) rfl]; exact w64 (by omega) (by omega) (by omega))
        rw [if_neg h2, w2'.out, w3'.out, w4'.out, if_pos (by omega), if_pos (by omega), if_pos (by omega), Int.toNat_natCast, Int.toNat_natCast]
        have hq : ((s.extract 6 s.size).extract j (j + v)).size = v := by rw [ByteArray.size_extract]; omega
        have hjl : j = (vi v).length := by
          rw [← hvj, List.length_take, ← size_list]; omega
        refine ⟨_, _, _, rfl, .inr ⟨(s.data.toList.drop 6).drop (j + v), ?_, ?_, ?_⟩⟩
        · rw [hq]; omega
        · rw [hq, ← hjl]
        · rw [hq, ← hvj, mid_list (s.extract 6 s.size) j (j + v), hr, show j + v - j = v by omega, ← List.drop_drop, List.take_append_drop, List.take_append_drop]
theorem drop6 (k : Nat) (p : ByteArray) (t : List UInt8) : (head k p ++ t).drop 6 = vi p.size ++ (p.data.toList ++ t) := by simp [head]
theorem refopen_form {s : ByteArray} {k K : Nat} {p : ByteArray} {t : List UInt8} (hz : s.size ≤ 600) (F : Form s.data.toList k p t) (hK : 7000 ≤ K) : samphireref09_Open.f K s = if t = sum4 (head k p) then some ((k : Int), p, 0) else some (0, ⟨#[]⟩, 11) := by
  obtain ⟨h1, h8, hp, h4, hL⟩ := F
  obtain ⟨K, rfl⟩ : ∃ K', K = K' + 2 := ⟨K - 2, by omega⟩
  have hv := vi_pos p.size
  have e1 : p.data.toList.length = p.size := by simp
  have hss : s.size = 6 + (vi p.size).length + p.size + 4 := by
    rw [size_list, hL, List.length_append, h4]; simp [head]; omega
  have hh : (head k p).length = 6 + (vi p.size).length + p.size := by simp [head]; omega
  have b4 : bt s 4 = 1 := by
    obtain ⟨hl, hc, _⟩ := at_drop (s := s) (a := 4) (c := 1) (t := UInt8.ofNat k :: (vi p.size ++ (p.data.toList ++ t))) (by rw [hL]; simp [head])
    have := bt_nat s 4 hl
    rw [hc] at this; exact this
  have b5 : bt s 5 = (k : Int) := by
    obtain ⟨hl, hc, _⟩ := at_drop (s := s) (a := 5) (c := UInt8.ofNat k) (t := vi p.size ++ (p.data.toList ++ t)) (by rw [hL]; simp [head])
    have := bt_nat s 5 hl
    rw [hc, u8_nat (by omega)] at this; exact this
  have hm : (s.extract 0 4).toList = ([83, 77, 80, 72] : List UInt8) := by
    rw [ByteArray.toList_eq, extract_list, hL]; rfl
  have hrd := read_vi (K + 1) s p t (by omega) (by omega) hp (by rw [hL]; exact drop6 k p t) (by omega)
  obtain ⟨x, hx, hx2⟩ := refsum K (s.extract 0 (6 + (vi p.size).length + p.size)) (by rw [ByteArray.size_extract]; omega) (by rw [ByteArray.size_extract]; omega)
  rw [extract_list, hL, ← hh, List.take_left] at hx2
  unfold samphireref09_Open.f
  rw [if_neg (by omega), if_pos (by decide), if_pos (by omega), if_pos hm, if_pos (by omega), if_pos b4, if_pos (by omega), b5, if_neg (by omega), decide_eq_false (by omega), samphireref09_Open.j0, if_neg (by decide), hrd, Option.bind_some]
  dsimp only
  have w' := Lib.hid (show wrap64 (((6 + (vi p.size).length + p.size : Nat) : Int) + 4) = ((6 + (vi p.size).length + p.size + 4 : Nat) : Int) from w64 (by omega) (by omega) (by omega))
  have hne : ((s.size : Int) != ((6 + (vi p.size).length + p.size + 4 : Nat) : Int)) = false := by rw [hss]; simp
  rw [if_neg (by decide), w'.out, hne, samphireref09_Open.j1, if_neg (by decide), if_pos (by omega), if_pos (by omega), Int.toNat_natCast, hx, Option.bind_some]
  have ht : (s.extract (6 + (vi p.size).length + p.size) s.size).toList = t := by
    rw [ByteArray.toList_eq, extract_drop, hL, ← hh, List.drop_left]
  have wk' := Lib.hid (show wrap64 (k : Int) = (k : Int) from w64 (by omega) (by omega) (by omega))
  rw [ht, ByteArray.toList_eq, hx2, if_pos (by omega : (5 : Int) < (s.size : Int)), b5, wk'.out]
  by_cases hc : t = sum4 (head k p)
  · rw [if_pos hc, if_pos hc.symm]
  · rw [if_neg hc, if_neg (fun h => hc h.symm)]
theorem refopen_no {s : ByteArray} {K : Nat} (hz : s.size ≤ 600) (h : ∀ k p t, ¬ Form s.data.toList k p t) (hK : 7000 ≤ K) : samphireref09_Open.f K s = some (0, ⟨#[]⟩, 2) := by
  obtain ⟨K, rfl⟩ : ∃ K', K = K' + 2 := ⟨K - 2, by omega⟩
  have hj : ∀ b, b = true → samphireref09_Open.j0 (K + 2) s b = some (0, ⟨#[]⟩, 2) := fun b hb => by
    rw [hb, samphireref09_Open.j0, if_pos rfl]
  unfold samphireref09_Open.f
  by_cases h6 : (s.size : Int) < 6
  · rw [if_pos h6]; exact hj _ rfl
  · rw [if_neg h6, if_pos (by decide), if_pos (by omega)]
    by_cases hm : (s.extract 0 4).toList = ([83, 77, 80, 72] : List UInt8)
    · rw [if_pos hm, if_pos (by omega)]
      by_cases b4 : bt s 4 = 1
      · rw [if_pos b4, if_pos (by omega)]
        by_cases b5 : bt s 5 < 1
        · rw [if_pos b5]; exact hj _ rfl
        · rw [if_neg b5]
          by_cases b5' : bt s 5 > 8
          · exact hj _ (decide_eq_true b5')
          · rw [decide_eq_false b5', samphireref09_Open.j0, if_neg (by decide)]
            obtain ⟨q, at_, lost, hrd, hcase⟩ := read_any (K + 1) s (by omega) (by omega) (by omega)
            rw [hrd, Option.bind_some]
            dsimp only
            rcases hcase with rfl | ⟨u, hq, rfl, hd⟩
            · rw [if_pos rfl, samphireref09_Open.j1, if_pos rfl]
            · have hmore : ∀ b, b = true → ∀ c, samphireref09_Open.j1 (K + 1) s q b s ((6 + (vi q.size).length + q.size : Nat) : Int) c = some (0, ⟨#[]⟩, 2) := fun b hb c => by
                rw [hb, samphireref09_Open.j1, if_pos rfl]
              cases lost with
              | true => rw [if_pos rfl]; exact hmore _ rfl _
              | false =>
                have w' := Lib.hid (show wrap64 (((6 + (vi q.size).length + q.size : Nat) : Int) + 4) = ((6 + (vi q.size).length + q.size + 4 : Nat) : Int) from by
                  have := vi_len q.size 9 (Nat.lt_of_le_of_lt hq (by decide))
                  exact w64 (by omega) (by omega) (by omega))
                rw [if_neg (by decide), w'.out]
                by_cases hs : s.size = 6 + (vi q.size).length + q.size + 4
                · exfalso
                  have l4 : 4 < s.size := by omega
                  have l5 : 5 < s.size := by omega
                  have e4 : s[4].toNat = 1 := by have := bt_nat s 4 l4; have h2 : bt s ((4 : Nat) : Int) = 1 := b4; omega
                  have e5 : 1 ≤ s[5].toNat ∧ s[5].toNat ≤ 8 := by
                    have := bt_nat s 5 l5
                    have h2 : ¬ bt s ((5 : Nat) : Int) < 1 := b5
                    have h3 : ¬ bt s ((5 : Nat) : Int) > 8 := b5'
                    omega
                  refine h s[5].toNat q u ⟨e5.1, e5.2, hq, ?_, ?_⟩
                  · have hl := congrArg List.length hd
                    have e1 : q.data.toList.length = q.size := by simp
                    rw [List.length_drop, ← size_list, List.length_append, List.length_append, e1] at hl
                    omega
                  · rw [ByteArray.toList_eq, extract_list] at hm
                    have d4 := drop_at l4
                    have d5 := drop_at l5
                    have h4 : s[4] = 1 := UInt8.toNat_inj.1 (by rw [e4]; rfl)
                    rw [d5, h4, hd] at d4
                    have := List.take_append_drop 4 s.data.toList
                    rw [hm, d4] at this
                    rw [← this]
                    simp [head]
                · exact hmore _ (by simpa using by omega) _
      · rw [if_neg b4]; exact hj _ rfl
    · rw [if_neg hm]; exact hj _ rfl
theorem FrameTells : samphirelaw09_FrameTells.Pure := by
  intro a0 a1 a2 h0 h1 h2
  refine ⟨7001, ?_⟩
  have hj : ∀ b, b = true → samphirelaw09_FrameTells.j0 7001 a0 a1 a2 b = some true := fun b hb => by
    rw [hb, show (7001 : Nat) = 7000 + 1 from rfl, samphirelaw09_FrameTells.j0, if_pos rfl, show (7000 : Nat) = 6988 + 12 from rfl, awake_f 6988]; rfl
  unfold samphirelaw09_FrameTells.f
  by_cases hs : (a1.size : Int) > 600
  · rw [if_pos hs]; exact hj _ rfl
  · rw [if_neg hs]
    by_cases hs2 : (a2.size : Int) > 600
    · exact hj _ (decide_eq_true hs2)
    · rw [decide_eq_false hs2, show (7001 : Nat) = 7000 + 1 from rfl, samphirelaw09_FrameTells.j0, if_neg (by decide)]
      have hseal : ∃ t e, frame_Seal.f 7000 a0 a1 = some (t, e) ∧ samphireref09_Seal.f 7000 a0 a1 = some (t, e) := by
        by_cases ha : a0 < 1 ∨ a0 > 8
        · exact ⟨_, _, seal_arg 6989 a0 a1 ha, refseal_arg 6999 a0 a1 ha⟩
        · obtain ⟨k, rfl⟩ : ∃ k : Nat, a0 = k := ⟨a0.toNat, by omega⟩
          obtain ⟨t, ht, ht2⟩ := seal_f 6989 k a1 (by omega) (by omega) (by omega)
          obtain ⟨u, hu, hu2⟩ := refseal 7000 k a1 (by omega) (by omega) (by omega) (by omega)
          have e : u = t := ba_ext (by rw [ht2, hu2])
          subst e
          exact ⟨_, _, ht, hu⟩
      have hopen : ∃ k p e, frame_Open.f a2 = some (k, p, e) ∧ samphireref09_Open.f 7000 a2 = some (k, p, e) := by
        rw [open_f (by omega)]
        by_cases hF : ∃ k p u, Form a2.data.toList k p u
        · obtain ⟨k, p, u, F⟩ := hF
          rw [open_form (by omega) F, refopen_form (by omega) F (by omega)]
          by_cases hu : u = sum4 (head k p)
          · rw [if_pos hu]; exact ⟨_, _, _, rfl, rfl⟩
          · rw [if_neg hu]; exact ⟨_, _, _, rfl, rfl⟩
        · have hF2 : ∀ k p u, ¬ Form a2.data.toList k p u := fun k p u F => hF ⟨k, p, u, F⟩
          rw [open_no hF2, refopen_no (by omega) hF2 (by omega)]
          exact ⟨_, _, _, rfl, rfl⟩
      obtain ⟨t, e, q1, q2⟩ := hseal
      obtain ⟨k, p, e2, q3, q4⟩ := hopen
      rw [q1, Option.bind_some, q2, Option.bind_some, q3, Option.bind_some, q4, Option.bind_some]
      dsimp only
      rw [if_pos rfl, if_pos rfl, if_pos rfl, if_pos rfl, if_pos rfl, show (7000 : Nat) = 6988 + 12 from rfl, awake_f 6988]
      rfl
end Go.Proofs.Ytjmcdnhbiamokaa.Pure
