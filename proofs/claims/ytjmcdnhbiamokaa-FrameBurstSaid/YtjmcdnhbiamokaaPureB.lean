/- A frame of which bits are turned, within 32 that follow one another, is none: over lists. -/
import Derived.Test.YtjmcdnhbiamokaaPureG
namespace Go.Proofs.Ytjmcdnhbiamokaa.Pure
open Go.RowKit Go.Proofs.Ytjmcdnhbiamokaa.Q Go.Proofs.YtjmcdnhbiamokaaW.PrintWords Go.Proofs.YtjmcdnhbiamokaaW.PrintLast
set_option linter.unusedVariables false
set_option linter.unusedSimpArgs false
theorem map_lt (l : List UInt8) : ∀ c ∈ l.map (·.toNat), c < 256 := by
  intro c hc; simp only [List.mem_map] at hc; obtain ⟨x, _, rfl⟩ := hc; exact x.toNat_lt
/-- With its sum behind it each text has one sum. -/
theorem residue (l : List UInt8) : CrcPure.more 0 ((l ++ sum4 l).map (·.toNat)) = CrcPure.top - CrcPure.stn 32 CrcPure.top := by
  have hr : CrcPure.run CrcPure.top (l.map (·.toNat)) < 4294967296 := CrcPure.run_lt (by decide) (map_lt l)
  have hm : CrcPure.more 0 (l.map (·.toNat)) = CrcPure.top ^^^ CrcPure.run CrcPure.top (l.map (·.toNat)) := by
    unfold CrcPure.more
    rw [Nat.sub_zero, CrcPure.top_sub hr]
  have hlt := CrcPure.more_lt 0 (l.map (·.toNat))
  have hv : CrcPure.val ((sum4 l).map (·.toNat)) = CrcPure.more 0 (l.map (·.toNat)) := by
    unfold sum4
    simp only [List.map_cons, List.map_nil, CrcPure.val]
    generalize CrcPure.more 0 (l.map (·.toNat)) = n at *
    rw [u8_nat (show n % 256 < 256 by omega), u8_nat (show n / 256 % 256 < 256 by omega), u8_nat (show n / 65536 % 256 < 256 by omega), u8_nat (show n / 16777216 % 256 < 256 by omega)]
    omega
  have h := CrcPure.run_val (CrcPure.run CrcPure.top (l.map (·.toNat))) ((sum4 l).map (·.toNat)) (map_lt _)
  have e : CrcPure.more 0 ((l ++ sum4 l).map (·.toNat)) = CrcPure.top - CrcPure.run CrcPure.top ((l ++ sum4 l).map (·.toNat)) := by unfold CrcPure.more; rw [Nat.sub_zero]
  rw [e, List.map_append, CrcPure.run_append, h, hv, hm, List.length_map, sum4_len]
  congr 2
  rw [Nat.xor_comm CrcPure.top, ← Nat.xor_assoc, Nat.xor_self, Nat.zero_xor]
theorem burst_no {s d : ByteArray} {k f b : Nat} {p : ByteArray} (hp : p.size ≤ 65536) (hs : s.data.toList = frameL k p) (hz : s.size ≤ 140737488351232) (hd : d.size = s.size) (hf : f ≤ 8 * s.size) (hb : b < 4294967296) (hb0 : b ≠ 0) (hv : CrcPure.val (bs d) = CrcPure.val (bs s) ^^^ b * 2 ^ f) :
    ∃ e : Int, frame_Open.f d = some (0, ⟨#[]⟩, e) ∧ (e = 2 ∨ e = 11) := by
  rw [open_f (by omega)]
  have hne := CrcPure.burst (s := 0) (by omega) (bs_lt s) (bs_lt d) (by rw [bs_len, bs_len]; exact hd) (by rw [bs_len]; exact hf) hb hb0 hv
  have hrs : CrcPure.more 0 (bs s) = CrcPure.top - CrcPure.stn 32 CrcPure.top := by unfold bs; rw [hs]; exact residue _
  by_cases hF : ∃ k p u, Form d.data.toList k p u
  · obtain ⟨k', p', u, F⟩ := hF
    rw [open_form (by omega) F]
    by_cases hu : u = sum4 (head k' p')
    · exfalso
      have hrd : CrcPure.more 0 (bs d) = CrcPure.top - CrcPure.stn 32 CrcPure.top := by unfold bs; rw [F.list, hu]; exact residue _
      exact hne (by rw [hrs, hrd])
    · rw [if_neg hu]; exact ⟨11, rfl, .inr rfl⟩
  · rw [open_no (fun k p u F => hF ⟨k, p, u, F⟩)]; exact ⟨2, rfl, .inl rfl⟩
end Go.Proofs.Ytjmcdnhbiamokaa.Pure
