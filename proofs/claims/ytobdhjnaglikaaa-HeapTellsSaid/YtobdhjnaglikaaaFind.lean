import Derived.Test.YtobdhjnaglikaaaQx3
import Derived.WalkLawsBesides
namespace Go.Proofs.Ytobdhjnaglikaaa.Q
open Go.RowKit Go.Proofs.YtobdhjnaglikaaaW.PrintWords Go.Proofs.YtobdhjnaglikaaaW.PrintLast Go.Proofs.YtobdhjnaglikaaaW.PrintMore
set_option linter.unusedVariables false
set_option linter.unusedSimpArgs false
def isKey (key : ByteArray) (x : S25) : Bool := x.f0.toList == key.toList
theorem find1_any (x : S25) (g : Nat) (key : ByteArray) (w : World) (hk : w.cell? ⟨g, 0, none⟩ = some (.string key)) (hg : g < w.heap.size) (b : Bool) (hb : (x.f0.toList == key.toList) = b) :
  Calls Try.prog 31 #[.agg #[.string x.f0, .int .u64 x.f1, .int .u64 x.f2], .pointer (some ⟨g, 0, none⟩)] w fun e w' => e = .returned (.bool b) ∧ Below w.heap.size w w' := by
 have hk2 : (w.alloc (.cells #[.string x.f0, .int .u64 x.f1, .int .u64 x.f2] 25)).cell? ⟨g, 0, none⟩ = some (.string key) := ((below_alloc (Below.refl _ _) _).cell (p := ⟨g, 0, none⟩) hg).trans hk
 clear hk hg
 go_enter Try.func31, Try.ntmps31
 go_wp2
 go_ret
 exact ⟨rfl, below_alloc (Below.refl _ _) _⟩
abbrev keyFn (g : Nat) : Value := .func (.func 31) #[] #[.pointer (some ⟨g, 0, none⟩)]
set_option maxHeartbeats 1000000 in
theorem index_any (A : Option Addr) (c : Nat) (l : List S25) (key : ByteArray) (g : Nat) (w : World) (hr : Kd.C k25 w A l.length l) (hl : l.length < 9223372036854775807) (hk : w.cell? ⟨g, 0, none⟩ = some (.string key)) (hg : g < w.heap.size)
  (n : Nat) (hn : n ≤ l.length) (hno : ∀ k, k < n → isKey key (rd_T25 l (k : Int)) = false) (hyes : n < l.length → isKey key (rd_T25 l (n : Int)) = true) (r : Int) (hr2 : r = if n < l.length then (n : Int) else -1) :
  Calls Try.prog 30 #[.slice A l.length c, keyFn g] w fun e w' => e = .returned (.int .i64 r) ∧ Below w.heap.size w w' := by
 have HR := Lib.hid hr
 have HN := Lib.hid hno
 have HY := Lib.hid hyes
 have HK := Lib.hid hk
 have HG := Lib.hid hg
 have HZ := Lib.hid hr2
 clear hr hno hyes hk hg hr2
 go_enter Try.func30, Try.ntmps30
 go_wp2
 go_loopw [8] (fun i wr => ∃ k : Nat, k ≤ n ∧ i = .int .i64 k ∧ Below w.heap.size w wr) (fun i _ => l.length - (intOf i).toNat)
 case atStart => exact ⟨0, Nat.zero_le _, rfl, Below.refl _ _⟩
 case round =>
  obtain ⟨k, hkn, rfl, hb⟩ := hrel
  have hkw : wr.cell? ⟨g, 0, none⟩ = some (.string key) := (hb.cell (p := ⟨g, 0, none⟩) HG.out).trans HK.out
  have hgw : g < wr.heap.size := Nat.lt_of_lt_of_le HG.out hb.size
  have HB := Aside0.mk hb
  clear hb
  by_cases hlt : k < l.length
  ·
   obtain ⟨ad, rfl, h0, h1, h2⟩ := at_T25 (Kd.C_below HR.out HB.out) (k : Int) (by omega) (by omega)
   rw [Int.toNat_natCast] at h0 h1 h2
   by_cases hlt2 : k < n
   ·
    have hx : isKey key (rd_T25 l (k : Int)) = false := HN.out k hlt2
    unfold isKey at hx
    have HX := Aside0.mk hx
    clear hx
    generalize rd_T25 l (k : Int) = x at *
    go_wp2_with (go_at_call 31; refine (find1_any x g key _ hkw hgw false HX.out).mono ?_; rintro e w' ⟨rfl, hb2⟩; have HB2 := Aside0.mk (below_step HB.out hb2); clear hb2)
    go_roundw
    case rel => exact ⟨k + 1, by omega, by go_num, HB2.out⟩
    case measure => simp [intOf]; omega
   ·
    obtain rfl : k = n := by omega
    have hx : isKey key (rd_T25 l (k : Int)) = true := HY.out hlt
    unfold isKey at hx
    have HX := Aside0.mk hx
    clear hx
    generalize rd_T25 l (k : Int) = x at *
    go_wp2_with (go_at_call 31; refine (find1_any x g key _ hkw hgw true HX.out).mono ?_; rintro e w' ⟨rfl, hb2⟩; have HB2 := Aside0.mk (below_step HB.out hb2); clear hb2)
    go_ret
    exact ⟨by rw [HZ.out, if_pos hlt]; rfl, HB2.out⟩
  ·
   go_wp2
   go_ret
   exact ⟨by rw [HZ.out, if_neg (by omega)]; rfl, HB.out⟩
def heap_Find.f (k : Nat) (l : List S25) (key : ByteArray) : Option (Int × Bool) := if l.length < 9223372036854775807 then (heap_Right.f k l).bind fun t => if t = true then (if l.findIdx (isKey key) < l.length then some (((l.findIdx (isKey key) : Nat) : Int), true) else some (0, false)) else some (0, false) else none
theorem heap_Find.mono : ∀ a0 a1 k, LeO (heap_Find.f k a0 a1) (heap_Find.f (k + 1) a0 a1) := by
 intro a0 a1 k
 unfold heap_Find.f
 refine LeO.ite ?_ ?_
 ·
  refine LeO.bind (heap_Right.mono _ _) (fun _ => LeO.refl _)
 ·
  exact LeO.refl _
theorem findIdx_no (p : S25 → Bool) : ∀ (l : List S25) (k : Nat), k < l.findIdx p → p (l.getD k z25) = false := by
 intro l k h
 have hl : k < l.length := Nat.lt_of_lt_of_le h List.findIdx_le_length
 have := List.not_of_lt_findIdx h
 rw [List.getD_eq_getElem?_getD, List.getElem?_eq_getElem hl]
 simpa using this
theorem findIdx_yes (p : S25 → Bool) (l : List S25) (h : l.findIdx p < l.length) : p (l.getD (l.findIdx p) z25) = true := by
 rw [List.getD_eq_getElem?_getD, List.getElem?_eq_getElem h]
 exact List.findIdx_getElem (w := h)
set_option maxHeartbeats 1000000 in
theorem find_walk (k : Nat) (A : Option Addr) (c : Nat) (l : List S25) (key : ByteArray) (w : World) (hr : Kd.C k25 w A l.length l) (hc : l.length ≤ c) (hl : l.length < 9223372036854775807) (n : Nat) (hn : l.findIdx (isKey key) = n) (hR : heap_Right.f k l = some true) :
  Calls Try.prog 13 #[.slice A l.length c, .string key] w fun e w' => e = .returned (.tuple #[.int .i64 (if n < l.length then (n : Int) else 0), .bool (decide (n < l.length))]) ∧ Below w.heap.size w w' := by
 have hle : n ≤ l.length := hn ▸ List.findIdx_le_length
 have F1 := Lib.hid (fun w hr => heap_Right.calls k A c l true w hr hc hR)
 have F2 := Lib.hid (fun g w hr hk hg => index_any A c l key g w hr hl hk hg n hle (fun k hk => findIdx_no (isKey key) l k (by omega)) (fun h => by subst hn; exact findIdx_yes (isKey key) l h) (if n < l.length then (n : Int) else -1) rfl)
 have HR := Aside0.mk (Kd.C_alloc hr (.cells #[.string key] 9))
 have HB := Aside0.mk (below_alloc (Below.refl w.heap.size w) (.cells #[.string key] 9))
 have HG := Aside0.mk (blk_new w (.cells #[.string key] 9))
 clear hr hn hR
 by_cases hlt : n < l.length
 ·
  rw [if_pos hlt] at F2
  rw [if_pos hlt, decide_eq_true hlt]
  have hlt2 : decide ((0 : Int) ≤ (n : Int)) = true := decide_eq_true (by omega)
  go_enter Try.func13, Try.ntmps13
  go_wp2_with (first
   | (go_at_call 15; refine (F1.out _ HR.out).mono ?_; rintro e w1 ⟨rfl, hb⟩; have HR1 := Aside0.mk (Kd.C_below HR.out hb); have HB1 := Aside0.mk (below_step HB.out hb); have HG1 := Aside0.mk (blk_below HG.out hb); clear hb)
   | (go_at_call 30; refine (F2.out _ _ HR1.out ((blk_cell HG1.out 0).trans rfl) (blk_lt HG1.out)).mono ?_; rintro e w2 ⟨rfl, hb⟩; have HB2 := Aside0.mk (below_step HB1.out hb); clear hb))
  go_ret2
  exact ⟨rfl, HB2.out⟩
 ·
  rw [if_neg hlt] at F2
  rw [if_neg hlt, decide_eq_false hlt]
  go_enter Try.func13, Try.ntmps13
  go_wp2_with (first
   | (go_at_call 15; refine (F1.out _ HR.out).mono ?_; rintro e w1 ⟨rfl, hb⟩; have HR1 := Aside0.mk (Kd.C_below HR.out hb); have HB1 := Aside0.mk (below_step HB.out hb); have HG1 := Aside0.mk (blk_below HG.out hb); clear hb)
   | (go_at_call 30; refine (F2.out _ _ HR1.out ((blk_cell HG1.out 0).trans rfl) (blk_lt HG1.out)).mono ?_; rintro e w2 ⟨rfl, hb⟩; have HB2 := Aside0.mk (below_step HB1.out hb); clear hb))
  go_ret2
  exact ⟨rfl, HB2.out⟩
theorem find_bad (k : Nat) (A : Option Addr) (c : Nat) (l : List S25) (key : ByteArray) (w : World) (hr : Kd.C k25 w A l.length l) (hc : l.length ≤ c) (hR : heap_Right.f k l = some false) :
  Calls Try.prog 13 #[.slice A l.length c, .string key] w fun e w' => e = .returned (.tuple #[.int .i64 0, .bool false]) ∧ Below w.heap.size w w' := by
 have F1 := Lib.hid (fun w hr => heap_Right.calls k A c l false w hr hc hR)
 have HR := Aside0.mk (Kd.C_alloc hr (.cells #[.string key] 9))
 have HB := Aside0.mk (below_alloc (Below.refl w.heap.size w) (.cells #[.string key] 9))
 clear hr hR
 go_enter Try.func13, Try.ntmps13
 go_wp2_with (go_at_call 15; refine (F1.out _ HR.out).mono ?_; rintro e w1 ⟨rfl, hb⟩; have HB1 := Aside0.mk (below_step HB.out hb); clear hb)
 go_ret2
 exact ⟨rfl, HB1.out⟩
theorem heap_Find.calls (k : Nat) (A0 : Option Addr) (c0 : Nat) (l0 : List S25) (a1 : ByteArray) (r1 : Int) (r2 : Bool) (w : World) (hr0 : Kd.C k25 w A0 l0.length l0) (hc0 : l0.length ≤ c0) (h : heap_Find.f k l0 a1 = some (r1, r2)) :
  Calls Try.prog 13 #[.slice A0 l0.length c0, .string a1] w fun e w' => e = .returned (.tuple #[.int .i64 r1, .bool r2]) ∧ Below w.heap.size w w' := by
 unfold heap_Find.f at h
 by_cases hl : l0.length < 9223372036854775807
 ·
  rw [if_pos hl] at h
  obtain ⟨t, e1, h2⟩ := Option.bind_eq_some_iff.1 h
  cases t with
  | true =>
   have F := find_walk k A0 c0 l0 a1 w hr0 hc0 hl _ rfl e1
   rw [if_pos rfl] at h2
   by_cases hn : l0.findIdx (isKey a1) < l0.length
   ·
    rw [if_pos hn] at h2 F
    rw [decide_eq_true hn] at F
    simp only [Option.some.injEq, Prod.mk.injEq] at h2
    obtain ⟨rfl, rfl⟩ := h2
    exact F
   ·
    rw [if_neg hn] at h2 F
    rw [decide_eq_false hn] at F
    simp only [Option.some.injEq, Prod.mk.injEq] at h2
    obtain ⟨rfl, rfl⟩ := h2
    exact F
  | false =>
   rw [if_neg (by decide)] at h2
   simp only [Option.some.injEq, Prod.mk.injEq] at h2
   obtain ⟨rfl, rfl⟩ := h2
   exact find_bad k A0 c0 l0 a1 w hr0 hc0 e1
 ·
  rw [if_neg hl] at h
  cases h
end Go.Proofs.Ytobdhjnaglikaaa.Q
