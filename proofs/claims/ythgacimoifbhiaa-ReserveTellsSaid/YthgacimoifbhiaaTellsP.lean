import Derived.Test.YthgacimoifbhiaaNx3
import Derived.Test.YthgacimoifbhiaaRmg
import Derived.Test.YthgacimoifbhiaaRadd
import Derived.Test.YthgacimoifbhiaaMnoO
import Derived.Test.YthgacimoifbhiaaM3E
namespace Go.Proofs.Ythgacimoifbhiaa
attribute [local go_sem ↓] Go.wp_at_zero Go.wp_at_succ
open Go.RowKit Go.Proofs.Ythgacimoifbhiaa.Q Go.Proofs.YthgacimoifbhiaaW.PrintWords Go.Proofs.YthgacimoifbhiaaW.PrintLast Go.Proofs.YthgacimoifbhiaaW.PrintMore
set_option linter.unusedVariables false
set_option linter.unusedSimpArgs false
theorem drawn_below {w w' : World} (h : Drawn0 w w') : Below w.heap.size w w' := by obtain ⟨n, rfl⟩ := h; exact pw_below_drewN (Below.refl _ _) n
theorem new_at (w : World) (o1 o2 : Obj) : ((w.alloc o1).alloc o2).heap[w.heap.size + 1]? = some o2 := by rw [← size_push w o1]; exact blk_new _ _
theorem ref_calls (K N : Int) (A : Option Addr) (n c : Nat) (w : World) : Calls Try.prog 15 #[.agg #[.int .i64 K, .int .u64 N, .slice A n c]] w fun e w' => e = .returned (.agg #[.int .i64 K, .int .u64 N, .slice A n c]) ∧ Below w.heap.size w w' := by
 have hu26 := Try.underlying26
 have hu41 := Try.underlying41
 have B0 := Aside0.mk (below_alloc (below_alloc (Below.refl w.heap.size w) (.cells #[.int .i64 K, .int .u64 N, .slice A n c] 26 (0, 0))) (.cells #[.int .i64 K, .int .u64 N, .slice A n c] 41 (0, 0)))
 go_enter Try.func15, Try.ntmps15
 go_wp2_with (fail)
 refine bodyPost_ret (results_cell_row rfl _ _ (w.heap.size + 1) 41 #[.int .i64 K, .int .u64 N, .slice A n c] (0, 0) _ rfl (new_at _ _ _) Try.underlying41 rfl (by kernel_rfl)) rfl ⟨rfl, B0.out⟩
theorem same_calls (kf : Nat) (K N : Int) (A : Option Addr) (c : Nat) (X : List ByteArray) (B : Option Addr) (d : Nat) (w : World) (hA : Kd.C Kd.string w A X.length X) (hc : X.length ≤ c) (hB : Kd.C Kd.string w B X.length X) (hd : X.length ≤ d)
  (h : samphireref16_Strings.f kf X X = some true) :
  Calls Try.prog 16 #[.agg #[.int .i64 K, .int .u64 N, .slice A X.length c], .agg #[.int .i64 K, .int .u64 N, .slice B X.length d]] w fun e w' => e = .returned (.bool true) ∧ Below w.heap.size w w' := by
 have hu41 := Try.underlying41
 have F := Lib.hid (fun w hr hr2 => samphireref16_Strings.calls kf A c X B d X true w hr hc hr2 hd h)
 clear h
 have B0 := Aside0.mk (below_alloc (below_alloc (Below.refl w.heap.size w) (.cells #[.int .i64 K, .int .u64 N, .slice A X.length c] 41 (0, 0))) (.cells #[.int .i64 K, .int .u64 N, .slice B X.length d] 41 (0, 0)))
 go_enter Try.func16, Try.ntmps16
 go_wp2_with (go_at_call 12; refine (F.out _ (Kd.C_below hA B0.out) (Kd.C_below hB B0.out)).mono ?_; rintro e w5 ⟨rfl, hb⟩; have B5 := Aside0.mk (below_step B0.out (drawn_below hb)); clear hb)
 go_ret
 exact ⟨rfl, B5.out⟩
def CP (w : World) (r1 r2 : Int) (r3 : List ByteArray) (r5 r6 : Int) (e : Ending) (w' : World) : Prop :=
 ∃ (A2 : Option Addr) (c2 : Nat) (A3 : Option Addr) (n3 c3 : Nat), e = .returned (.tuple #[.agg #[.int .i64 r1, .int .u64 r2, .slice A2 r3.length c2], .agg #[.slice A3 n3 c3, .int .i64 r5], .int .i64 r6]) ∧ Kd.C Kd.string w' A2 r3.length r3 ∧ r3.length ≤ c2 ∧ Below w.heap.size w w'
section
variable (kf : Nat) (K N : Int) (A0 : Option Addr) (c0 : Nat) (X : List ByteArray) (K2 M : Int) (A1 : Option Addr) (c1 : Nat) (Y : List ByteArray) (key : ByteArray) (A : Option Addr) (c : Nat) (l : List Int) (a : Int) (w w1 : World)
variable (h0 : Kd.C Kd.string w A0 X.length X) (hc0 : X.length ≤ c0) (h1 : Kd.C Kd.string w A1 Y.length Y) (hc1 : Y.length ≤ c1) (h2 : Kd.C (Kd.int .u64) w A l.length l) (hc : l.length ≤ c) (hb : Below w.heap.size w w1)
include h0 hc0 h2 hc hb
theorem add_cp {r1 r2 : Int} {r3 : List ByteArray} {r5 r6 : Int} (h : reserve_Add.f kf K N X key l a = some (r1, r2, r3, l, r5, r6)) :
  Calls Try.prog 10 (raddArgs K N A0 c0 X key A c l a) w1 (CP w1 r1 r2 r3 r5 r6) := by
 refine (reserve_Add.calls kf K N (fun _ => True) A0 c0 X key (fun _ => True) A c l a r1 r2 r3 l r5 r6 w1 (Kd.V_mono (Kd.V_mk (base := w1.heap.size) (e := 9) hc0 (Kd.C_F Kd.heap_string (Kd.C_below h0 hb))) (fun _ _ => trivial)) (Kd.V_mono (Kd.V_mk (base := w1.heap.size) (e := 23) hc (Kd.C_F (Kd.heap_int .u64) (Kd.C_below h2 hb))) (fun _ _ => trivial)) h).mono ?_
 rintro e w' ⟨v2, v3, rfl, hV2, hV3, hb2⟩
 obtain ⟨A2, c2, rfl⟩ := Kd.V_slice hV2
 obtain ⟨A3, c3, rfl⟩ := Kd.V_slice hV3
 exact ⟨A2, c2, A3, _, c3, rfl, (Kd.V_reads' hV2).2.2, (Kd.V_reads' hV2).2.1, hb2⟩
theorem radd_cp {r1 r2 : Int} {r3 : List ByteArray} {r5 r6 : Int} (h : ∀ (P0 P2 : Nat → Prop) (w1 : World), Kd.V Kd.string 9 w1 w1.heap.size P0 (.slice A0 X.length c0) X → Kd.V (Kd.int .u64) 23 w1 w1.heap.size P2 (.slice A l.length c) l → Calls Try.prog 14 (raddArgs K N A0 c0 X key A c l a) w1 (RPost w1 P0 P2 r1 r2 r3 l r5 r6)) :
  Calls Try.prog 14 (raddArgs K N A0 c0 X key A c l a) w1 (CP w1 r1 r2 r3 r5 r6) := by
 refine (h (fun _ => True) (fun _ => True) w1 (Kd.V_mono (Kd.V_mk (base := w1.heap.size) (e := 9) hc0 (Kd.C_F Kd.heap_string (Kd.C_below h0 hb))) (fun _ _ => trivial)) (Kd.V_mono (Kd.V_mk (base := w1.heap.size) (e := 23) hc (Kd.C_F (Kd.heap_int .u64) (Kd.C_below h2 hb))) (fun _ _ => trivial))).mono ?_
 rintro e w' ⟨v2, v3, rfl, hV2, hV3, hb2⟩
 obtain ⟨A2, c2, rfl⟩ := Kd.V_slice hV2
 obtain ⟨A3, c3, rfl⟩ := Kd.V_slice hV3
 exact ⟨A2, c2, A3, _, c3, rfl, (Kd.V_reads' hV2).2.2, (Kd.V_reads' hV2).2.1, hb2⟩
include h1 hc1
abbrev mergeArgs (K N : Int) (A0 : Option Addr) (c0 : Nat) (X : List ByteArray) (K2 M : Int) (A1 : Option Addr) (c1 : Nat) (Y : List ByteArray) (A : Option Addr) (c : Nat) (l : List Int) (a : Int) : Array Value :=
 #[.agg #[.int .i64 K, .int .u64 N, .slice A0 X.length c0], .agg #[.int .i64 K2, .int .u64 M, .slice A1 Y.length c1], .agg #[.slice A l.length c, .int .i64 a]]
theorem merge_cp {er : Int} (her : (er != 0) = true) (he7 : er ≠ 7) {r1 r2 : Int} {r3 : List ByteArray} {r5 r6 : Int} (h : reserve_Merge.f er K N X K2 M Y l a = some (r1, r2, r3, l, r5, r6)) :
  Calls Try.prog 19 (mergeArgs K N A0 c0 X K2 M A1 c1 Y A c l a) w1 (CP w1 r1 r2 r3 r5 r6) := by
 refine (reserve_Merge.calls er her he7 K N A0 c0 X K2 M A1 c1 Y (fun _ => True) A c l a r1 r2 r3 l r5 r6 w1 (Kd.C_below h0 hb) hc0 (Kd.C_below h1 hb) hc1 (Kd.V_mono (Kd.V_mk (base := w1.heap.size) (e := 23) hc (Kd.C_F (Kd.heap_int .u64) (Kd.C_below h2 hb))) (fun _ _ => trivial)) h).mono ?_
 rintro e w' ⟨v2, v3, rfl, hR2, hV3, hb2⟩
 obtain ⟨A2, c2, rfl⟩ := Kd.R_slice hR2
 obtain ⟨A3, c3, rfl⟩ := Kd.V_slice hV3
 exact ⟨A2, c2, A3, _, c3, rfl, (Kd.R_reads' hR2).2.2, (Kd.R_reads' hR2).2.1, hb2⟩
end
theorem none_cp {A : Option Addr} {c : Nat} {l : List Int} {a : Int} {w1 : World} {er : Int} {fn : Nat} {args : Array Value} (h : Calls Try.prog fn args w1 fun e w' => e = .returned (.tuple #[.agg #[.int .i64 0, .int .u64 0, .slice none 0 0], .agg #[.slice A l.length c, .int .i64 a], .int .i64 er]) ∧ Below w1.heap.size w1 w') :
  Calls Try.prog fn args w1 (CP w1 0 0 [] a er) := by
 refine h.mono ?_
 rintro e w' ⟨rfl, hb2⟩
 exact ⟨none, 0, A, _, c, rfl, ⟨rfl, by simp, fun h => absurd h (by simp)⟩, Nat.le_refl _, hb2⟩
theorem rmerge_cp {er K T : Int} {A : Option Addr} {c : Nat} {l : List Int} {a : Int} {args : Array Value} {w1 : World} (items : List ByteArray) (b : Int) (h : Calls Try.prog 20 args w1 (RMPost er K T A c l a (some (items, b)) w1)) : Calls Try.prog 20 args w1 (CP w1 K T items b 0) := by
 refine h.mono ?_
 rintro e w' ⟨v2, A3, c3, rfl, hR2, hb2⟩
 obtain ⟨A2, c2, rfl⟩ := Kd.R_slice hR2
 exact ⟨A2, c2, A3, _, c3, rfl, (Kd.R_reads' hR2).2.2, (Kd.R_reads' hR2).2.1, hb2⟩
theorem C_keep {w w' : World} {A : Option Addr} {n : Nat} {X : List ByteArray} (h : Kd.C Kd.string w A n X) (hk : ∀ (a : Addr) (s : ByteArray), w.cell? a = some (.string s) → w'.cell? a = some (.string s)) : Kd.C Kd.string w' A n X := by
 refine ⟨h.1, h.2.1, fun h0 => ?_⟩
 obtain ⟨ad, e, hc⟩ := h.2.2 h0
 refine ⟨ad, e, fun j p hp => ?_⟩
 obtain ⟨cs, hl, hK, hu⟩ := hc j p hp
 have hK' : cs = [.string p] := hK
 subst hK'
 refine ⟨_, hl, hK, fun q u hq => ?_⟩
 have h1 := hu q u hq
 cases q with
 | zero =>
  obtain rfl : Value.string p = u := by simpa using hq
  exact hk _ _ h1
 | succ q => simp at hq
theorem str_far {w : World} {g : Nat} {cs : Array Value} {t : TypeId} (hg : w.heap[g]? = some (.cells cs t (0, 0))) (hs : ∀ (i : Nat) (s : ByteArray), cs[i]? ≠ some (Value.string s)) {a : Addr} {s : ByteArray} (ha : w.cell? a = some (Value.string s)) : a.block ≠ g := by
 intro e
 unfold World.cell? at ha
 rw [e, hg] at ha
 simp at ha
 exact hs a.off s ha.2
theorem C_put41 {w : World} {A : Option Addr} {n : Nat} {X : List ByteArray} (h : Kd.C Kd.string w A n X) {g : Nat} (hg : w.heap[g]? = some (sampleR 0 0 (.slice none 0 0))) (K N : Int) (u : Value) : Kd.C Kd.string (((w.setCell ⟨g, 0, none⟩ (.int .i64 K)).setCell ⟨g, 1, none⟩ (.int .u64 N)).setCell ⟨g, 2, none⟩ u) A n X :=
 C_keep h fun a s ha => by
  have hn := str_far hg (fun i s => by match i with | 0 => simp | 1 => simp | 2 => simp | i + 3 => simp) ha
  rw [cell_far hn, cell_far hn, cell_far hn, ha]
theorem C_put40 {w : World} {A : Option Addr} {n : Nat} {X : List ByteArray} (h : Kd.C Kd.string w A n X) {g : Nat} (hg : w.heap[g]? = some (wordsR (.slice none 0 0) 0)) (u : Value) (a0 : Int) : Kd.C Kd.string ((w.setCell ⟨g, 0, none⟩ u).setCell ⟨g, 1, none⟩ (.int .i64 a0)) A n X :=
 C_keep h fun a s ha => by
  have hn := str_far hg (fun i s => by match i with | 0 => simp | 1 => simp | i + 2 => simp) ha
  rw [cell_far hn, cell_far hn, ha]
section
variable {w5 w7 : World} {p q m : Nat} {A : Option Addr} {X : List ByteArray} (C : Kd.C Kd.string w7 A X.length X ∧ X.length ≤ m) (B : Below w5.heap.size w5 w7) (K N : Int) (u v : Value) (a0 : Int)
include C B
theorem fin_ss (ha : w7.heap[p]? = some (sampleR 0 0 (.slice none 0 0))) (hb : w7.heap[q]? = some (wordsR (.slice none 0 0) 0)) (hne : p ≠ q) (hp : w5.heap.size ≤ p) (hq : w5.heap.size ≤ q) :
  Aside0 ((((((w7.setCell ⟨p, 0, none⟩ (.int .i64 K)).setCell ⟨p, 1, none⟩ (.int .u64 N)).setCell ⟨p, 2, none⟩ u).setCell ⟨q, 0, none⟩ v).setCell ⟨q, 1, none⟩ (.int .i64 a0)).heap[p]? = some (sampleR K N u) ∧
   (((((w7.setCell ⟨p, 0, none⟩ (.int .i64 K)).setCell ⟨p, 1, none⟩ (.int .u64 N)).setCell ⟨p, 2, none⟩ u).setCell ⟨q, 0, none⟩ v).setCell ⟨q, 1, none⟩ (.int .i64 a0)).heap[q]? = some (wordsR v a0) ∧
   Kd.C Kd.string (((((w7.setCell ⟨p, 0, none⟩ (.int .i64 K)).setCell ⟨p, 1, none⟩ (.int .u64 N)).setCell ⟨p, 2, none⟩ u).setCell ⟨q, 0, none⟩ v).setCell ⟨q, 1, none⟩ (.int .i64 a0)) A X.length X ∧ X.length ≤ m) ∧
  Aside0 (Below w5.heap.size w5 (((((w7.setCell ⟨p, 0, none⟩ (.int .i64 K)).setCell ⟨p, 1, none⟩ (.int .u64 N)).setCell ⟨p, 2, none⟩ u).setCell ⟨q, 0, none⟩ v).setCell ⟨q, 1, none⟩ (.int .i64 a0))) := by
 have hb2 := blk_far (p := ⟨p, 2, none⟩) (blk_far (p := ⟨p, 1, none⟩) (blk_far (p := ⟨p, 0, none⟩) hb hne.symm (.int .i64 K)) hne.symm (.int .u64 N)) hne.symm u
 exact ⟨⟨blk_far (blk_far (put41 ha K N u) hne _) hne _, put40 hb2 v a0, C_put40 (C_put41 C.1 ha K N u) hb2 v a0, C.2⟩, ⟨set5 B hp hp hp hq hq⟩⟩
theorem fin_cs (hb : w7.heap[q]? = some (wordsR (.slice none 0 0) 0)) (hq : w5.heap.size ≤ q) :
  Aside0 ((((w7.alloc (sampleR K N u)).setCell ⟨q, 0, none⟩ v).setCell ⟨q, 1, none⟩ (.int .i64 a0)).heap[w7.heap.size]? = some (sampleR K N u) ∧
   (((w7.alloc (sampleR K N u)).setCell ⟨q, 0, none⟩ v).setCell ⟨q, 1, none⟩ (.int .i64 a0)).heap[q]? = some (wordsR v a0) ∧
   Kd.C Kd.string (((w7.alloc (sampleR K N u)).setCell ⟨q, 0, none⟩ v).setCell ⟨q, 1, none⟩ (.int .i64 a0)) A X.length X ∧ X.length ≤ m) ∧
  Aside0 (Below w5.heap.size w5 (((w7.alloc (sampleR K N u)).setCell ⟨q, 0, none⟩ v).setCell ⟨q, 1, none⟩ (.int .i64 a0))) := by
 have hne : w7.heap.size ≠ q := Nat.ne_of_gt (blk_lt hb)
 exact ⟨⟨blk_far (blk_far (blk_new _ _) hne _) hne _, put40 (blk_alloc hb _) v a0, C_put40 (Kd.C_below C.1 (below_alloc (Below.refl _ _) _)) (blk_alloc hb _) v a0, C.2⟩, ⟨((below_alloc B _).setCell hq _).setCell hq _⟩⟩
theorem fin_cc : Aside0 (((w7.alloc (sampleR K N u)).alloc (wordsR v a0)).heap[w7.heap.size]? = some (sampleR K N u) ∧ ((w7.alloc (sampleR K N u)).alloc (wordsR v a0)).heap[w7.heap.size + 1]? = some (wordsR v a0) ∧ Kd.C Kd.string ((w7.alloc (sampleR K N u)).alloc (wordsR v a0)) A X.length X ∧ X.length ≤ m) ∧
  Aside0 (Below w5.heap.size w5 ((w7.alloc (sampleR K N u)).alloc (wordsR v a0))) :=
 ⟨⟨blk_alloc (blk_new _ _) _, new_at _ _ _, Kd.C_below C.1 (below_alloc (below_alloc (Below.refl _ _) _) _), C.2⟩, ⟨below_alloc (below_alloc B _) _⟩⟩
theorem fin_c2 : Aside0 (((w7.alloc (wordsR v a0)).alloc (sampleR K N u)).heap[w7.heap.size + 1]? = some (sampleR K N u) ∧ ((w7.alloc (wordsR v a0)).alloc (sampleR K N u)).heap[w7.heap.size]? = some (wordsR v a0) ∧ Kd.C Kd.string ((w7.alloc (wordsR v a0)).alloc (sampleR K N u)) A X.length X ∧ X.length ≤ m) ∧
  Aside0 (Below w5.heap.size w5 ((w7.alloc (wordsR v a0)).alloc (sampleR K N u))) :=
 ⟨⟨new_at _ _ _, blk_alloc (blk_new _ _) _, Kd.C_below C.1 (below_alloc (below_alloc (Below.refl _ _) _) _), C.2⟩, ⟨below_alloc (below_alloc B _) _⟩⟩
end
end Go.Proofs.Ythgacimoifbhiaa
