import Derived.Test.YtbpcehbcbcojiaaPureB
import Derived.Test.YtbpcehbcbcojiaaPureD
import Derived.Test.YtbpcehbcbcojiaaWt
namespace Go.Proofs.Ytbpcehbcbcojiaa.Pure
open Go.RowKit Go.Proofs.YtbpcehbcbcojiaaW.PrintWords Go.Proofs.YtbpcehbcbcojiaaW.PrintLast Dec
set_option linter.unusedVariables false
theorem subD_f' (n m : Nat) (hn : n < M128) (hm : m < M128) : Q.samphireref01_Sub.f (hi n) (lo n) (hi m) (lo m) = some (if m ≤ n then (hi (n - m), lo (n - m), true) else (0, 0, false)) := by
 unfold Q.samphireref01_Sub.f; rw [if_pos ⟨(rng hn).1, (rng hn).2, (rng hm).1, (rng hm).2⟩, val_HILO, val_HILO]
theorem mulD_f (n m : Nat) (hn : n < M128) (hm : m < M128) : Q.samphireref01_Mul.f (hi n) (lo n) (hi m) (lo m) = some (sized (n * m)) := by
 unfold Q.samphireref01_Mul.f; rw [if_pos ⟨(rng hn).1, (rng hn).2, (rng hm).1, (rng hm).2⟩, val_HILO, val_HILO]
theorem wideTells_walk (a0 a1 b0 b1 : Int) (W : World) (h0 : (Lit.int .u64 a0).wf = true) (h1 : (Lit.int .u64 a1).wf = true) (h2 : (Lit.int .u64 b0).wf = true) (h3 : (Lit.int .u64 b1).wf = true) :
  Calls Try.prog 8 #[.agg #[.int .u64 a0, .int .u64 a1], .agg #[.int .u64 b0, .int .u64 b1]] W fun e w' => e = .returned (.bool true) ∧ Below W.heap.size W w' := by
 obtain ⟨n, hn, rfl, rfl⟩ := arg h0 h1
 obtain ⟨m, hm, rfl, rfl⟩ := arg h2 h3
 obtain ⟨s0, s1, ok, es⟩ : ∃ s0 s1 ok, sized (n + m) = (s0, s1, ok) := ⟨_, _, _, rfl⟩
 obtain ⟨d0, d1, up, ed⟩ : ∃ s0 s1 ok, (if m ≤ n then (hi (n - m), lo (n - m), true) else ((0 : Int), (0 : Int), false)) = (s0, s1, ok) := ⟨_, _, _, rfl⟩
 obtain ⟨m0, m1, im, em⟩ : ∃ s0 s1 ok, sized (n * m) = (s0, s1, ok) := ⟨_, _, _, rfl⟩
 obtain ⟨q0, q1, r0, r1, dv, eq⟩ : ∃ q0 q1 r0 r1 dv, Q.quo n m = (q0, q1, r0, r1, dv) := ⟨_, _, _, _, _, rfl⟩
 obtain ⟨x0, x1⟩ := small (n := LO n) (LO_lt n)
 obtain ⟨y0, y1⟩ := small (n := HI m) (HI_lt hm)
 have lx : LO n < M128 := Nat.lt_of_lt_of_le (LO_lt n) (by decide)
 have ly : HI m < M128 := Nat.lt_of_lt_of_le (HI_lt hm) (by decide)
 have hp : LO n * HI m < M128 := by
  have := Nat.mul_le_mul (show LO n ≤ 18446744073709551615 by have := LO_lt n; omega) (show HI m ≤ 18446744073709551615 by have := HI_lt hm; omega)
  unfold M128; omega
 have hml := mulD_f (LO n) (HI m) lx ly
 rw [x0, x1, y0, y1, sized_lt hp] at hml
 have hfull : Q.wide_Full.f (lo n) (hi m) = some (hi (LO n * HI m), lo (LO n * HI m)) := by
  unfold Q.wide_Full.f
  rw [if_pos ⟨in64_nat (LO_lt n), in64_nat (HI_lt hm)⟩, Int.toNat_natCast, Int.toNat_natCast]
 exact tells_in (hi n) (lo n) (hi m) (lo m) s0 s1 d0 d1 (cmpR n m) m0 m1 q0 q1 r0 r1 (hi (LO n * HI m)) (lo (LO n * HI m)) ok up im dv true W
  (fun w => Q.wide_Add.calls _ _ _ _ _ _ _ w ((add_f n m hn hm).trans (congrArg some es)))
  (fun w => Q.samphireref01_Add.calls _ _ _ _ _ _ _ w ((addD_f n m hn hm).trans (congrArg some es)))
  (fun w => Q.wide_Sub.calls _ _ _ _ _ _ _ w ((sub_f' n m hn hm).trans (congrArg some ed)))
  (fun w => Q.samphireref01_Sub.calls _ _ _ _ _ _ _ w ((subD_f' n m hn hm).trans (congrArg some ed)))
  (fun w => Q.wide_Cmp.calls _ _ _ _ _ w (cmp_f' n m hn hm))
  (fun w => Q.samphireref01_Cmp.calls _ _ _ _ _ w (cmpD_f n m hn hm))
  (fun w => Q.wide_Mul.calls _ _ _ _ _ _ _ w ((mul_f n m hn hm).trans (congrArg some em)))
  (fun w => Q.samphireref01_Mul.calls _ _ _ _ _ _ _ w ((mulD_f n m hn hm).trans (congrArg some em)))
  (fun w => Q.wide_Div.calls _ _ _ _ _ _ _ _ _ w ((quo_f n m hn hm).trans (congrArg some eq)))
  (fun w => E.samphireref01_Div.calls 200 _ _ _ _ _ _ _ _ _ w ((divD_f n m hn hm 200 (by decide)).trans (congrArg some eq)))
  (fun w => Q.samphireref01_Mul.calls _ _ _ _ _ _ _ w hml)
  (fun w => Q.wide_Full.calls _ _ _ _ w hfull)
  (fun w => Q.wide_Of.calls _ _ _ w (of_f (LO n) (LO_lt n)))
  (fun w => Q.samphirelaw01_awake.calls true w awake)
end Go.Proofs.Ytbpcehbcbcojiaa.Pure
