/- The law ReserveHolds: a sample as the document's, and whether two are the same. -/
import Derived.Test.YthgacimoifbhiaaNone
namespace Go.Proofs.Ythgacimoifbhiaa
attribute [local go_sem ↓] Go.wp_at_zero Go.wp_at_succ
open Go.RowKit Go.Proofs.Ythgacimoifbhiaa.Q Go.Proofs.YthgacimoifbhiaaW.PrintWords Go.Proofs.YthgacimoifbhiaaW.PrintLast Go.Proofs.YthgacimoifbhiaaW.PrintMore
set_option linter.unusedVariables false
set_option linter.unusedSimpArgs false
theorem ref_calls (K N : Int) (A : Option Addr) (n c : Nat) (w : World) : Calls Try.prog 15 #[.agg #[.int .i64 K, .int .u64 N, .slice A n c]] w fun e w' => e = .returned (.agg #[.int .i64 K, .int .u64 N, .slice A n c]) ∧ Below w.heap.size w w' := by
  have hu26 := Try.underlying26
  have hu41 := Try.underlying41
  have B0 := Aside0.mk (below_alloc (below_alloc (Below.refl w.heap.size w) (.cells #[.int .i64 K, .int .u64 N, .slice A n c] 26 (0, 0))) (.cells #[.int .i64 K, .int .u64 N, .slice A n c] 41 (0, 0)))
  go_enter Try.func15, Try.ntmps15
  go_wp2_with (fail)
  refine bodyPost_ret (results_cell_row rfl _ _ (w.heap.size + 1) 41 #[.int .i64 K, .int .u64 N, .slice A n c] (0, 0) _ rfl (new_at _ _ _) Try.underlying41 rfl (by kernel_rfl)) rfl ⟨rfl, B0.out⟩
theorem same_calls (kf : Nat) (K N : Int) (A : Option Addr) (c : Nat) (X : List ByteArray) (B : Option Addr) (d : Nat) (w : World) (hA : Kd.C Kd.string w A X.length X) (hc : X.length ≤ c) (hB : Kd.C Kd.string w B X.length X) (hd : X.length ≤ d)
    (h : samphireref16_Strings.f kf X X = some true) :
    Calls Try.prog 16 #[.agg #[.int .i64 K, .int .u64 N, .slice A X.length c], .agg #[.int .i64 K, .int .u64 N, .slice B X.length d]] w fun e w' => e = .returned (.bool true) ∧ Below w.heap.size w w' := by
  have hu41 := Try.underlying41
  have F := Lib.hid (fun w hr hr2 => samphireref16_Strings.calls kf A c X B d X true w hr hc hr2 hd h)
  clear h
  have B0 := Aside0.mk (below_alloc (below_alloc (Below.refl w.heap.size w) (.cells #[.int .i64 K, .int .u64 N, .slice A X.length c] 41 (0, 0))) (.cells #[.int .i64 K, .int .u64 N, .slice B X.length d] 41 (0, 0)))
  go_enter Try.func16, Try.ntmps16
  go_wp2_with (go_at_call 12; refine (F.out _ (Kd.C_below hA B0.out) (Kd.C_below hB B0.out)).mono ?_; rintro e w5 ⟨rfl, hb⟩; have B5 := Aside0.mk (below_step B0.out (drawn_below hb)); clear hb)
  go_ret
  exact ⟨rfl, B5.out⟩
end Go.Proofs.Ythgacimoifbhiaa
