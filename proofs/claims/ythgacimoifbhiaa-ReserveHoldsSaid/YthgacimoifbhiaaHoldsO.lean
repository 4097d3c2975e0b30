/- The law ReserveHolds: the guards. -/
import Derived.Test.YthgacimoifbhiaaHolds
namespace Go.Proofs.Ythgacimoifbhiaa
attribute [local go_sem ↓] Go.wp_at_zero Go.wp_at_succ
open Go.RowKit Go.Proofs.Ythgacimoifbhiaa.Q Go.Proofs.YthgacimoifbhiaaW.PrintWords Go.Proofs.YthgacimoifbhiaaW.PrintLast Go.Proofs.YthgacimoifbhiaaW.PrintMore
set_option linter.unusedVariables false
set_option linter.unusedSimpArgs false
set_option maxRecDepth 100000 in
set_option maxHeartbeats 4000000 in
theorem holds_out (kf : Nat) (k : Int) (AL : Option Addr) (cL : Nat) (L : List ByteArray) (AM : Option Addr) (cM : Nat) (M : List ByteArray) (A : Option Addr) (c : Nat) (l : List Int) (w : World)
    (hL : Kd.C Kd.string w AL L.length L) (hcL : L.length ≤ cL) (hM : Kd.C Kd.string w AM M.length M) (hcM : M.length ≤ cM)
    (haw : samphirelaw16_awake.f kf = some true)
    (h : samphireref16_Small.f kf L = some false ∨ (samphireref16_Small.f kf L = some true ∧ (samphireref16_Small.f kf M = some false ∨ (samphireref16_Small.f kf M = some true ∧ (30 < L.length ∨ (L.length ≤ 30 ∧ (30 < M.length ∨ (M.length ≤ 30 ∧ 200 < l.length)))))))) :
    Calls Try.prog 6 (holdsArgs k AL cL L AM cM M A c l) w fun e w' => e = .returned (.bool true) ∧ Below w.heap.size w w' := by
  have FA := Lib.hid (fun w => samphirelaw16_awake.calls kf true w haw)
  have HL := Aside0.mk hL
  have HM := Aside0.mk hM
  clear haw hL hM
  rcases h with h1 | ⟨h1, h2 | ⟨h2, h3 | ⟨h3, h4 | ⟨h4, h5⟩⟩⟩⟩
  · have F1 := Lib.hid (fun w hr => samphireref16_Small.calls kf AL cL L false w hr hcL h1)
    clear h1
    have B0 := Aside0.mk (Below.refl w.heap.size w)
    go_enter Try.func6, Try.ntmps6
    go_wp2_with (first
      | (go_at_call_of 13 (Value.slice AL L.length cL); refine (F1.out _ (Kd.C_below HL.out B0.out)).mono ?_; rintro e w1 ⟨rfl, hd⟩; have B1 := Aside0.mk (below_step B0.out (drawn_below hd)); clear hd)
      | (go_at_call 11; refine (FA.out _).mono ?_; rintro e w5 ⟨rfl, hb⟩; have B5 := Aside0.mk (below_step B1.out hb); clear hb))
    go_ret
    exact ⟨rfl, B5.out⟩
  · have F1 := Lib.hid (fun w hr => samphireref16_Small.calls kf AL cL L true w hr hcL h1)
    have F2 := Lib.hid (fun w hr => samphireref16_Small.calls kf AM cM M false w hr hcM h2)
    clear h1 h2
    have B0 := Aside0.mk (Below.refl w.heap.size w)
    go_enter Try.func6, Try.ntmps6
    go_wp2_with (first
      | (go_at_call_of 13 (Value.slice AL L.length cL); refine (F1.out _ (Kd.C_below HL.out B0.out)).mono ?_; rintro e w1 ⟨rfl, hd⟩; have B1 := Aside0.mk (below_step B0.out (drawn_below hd)); clear hd)
      | (go_at_call_of 13 (Value.slice AM M.length cM); refine (F2.out _ (Kd.C_below HM.out B1.out)).mono ?_; rintro e w2 ⟨rfl, hd⟩; have B2 := Aside0.mk (below_step B1.out (drawn_below hd)); clear hd)
      | (go_at_call 11; refine (FA.out _).mono ?_; rintro e w5 ⟨rfl, hb⟩; have B5 := Aside0.mk (below_step B2.out hb); clear hb))
    go_ret
    exact ⟨rfl, B5.out⟩
  · have F1 := Lib.hid (fun w hr => samphireref16_Small.calls kf AL cL L true w hr hcL h1)
    have F2 := Lib.hid (fun w hr => samphireref16_Small.calls kf AM cM M true w hr hcM h2)
    clear h1 h2
    have qL : decide ((30 : Int) < (L.length : Int)) = true := decide_eq_true (by omega)
    have B0 := Aside0.mk (Below.refl w.heap.size w)
    go_enter Try.func6, Try.ntmps6
    go_wp2_with (first
      | (go_at_call_of 13 (Value.slice AL L.length cL); refine (F1.out _ (Kd.C_below HL.out B0.out)).mono ?_; rintro e w1 ⟨rfl, hd⟩; have B1 := Aside0.mk (below_step B0.out (drawn_below hd)); clear hd)
      | (go_at_call_of 13 (Value.slice AM M.length cM); refine (F2.out _ (Kd.C_below HM.out B1.out)).mono ?_; rintro e w2 ⟨rfl, hd⟩; have B2 := Aside0.mk (below_step B1.out (drawn_below hd)); clear hd)
      | (go_at_call 11; refine (FA.out _).mono ?_; rintro e w5 ⟨rfl, hb⟩; have B5 := Aside0.mk (below_step B2.out hb); clear hb))
    go_ret
    exact ⟨rfl, B5.out⟩
  · have F1 := Lib.hid (fun w hr => samphireref16_Small.calls kf AL cL L true w hr hcL h1)
    have F2 := Lib.hid (fun w hr => samphireref16_Small.calls kf AM cM M true w hr hcM h2)
    clear h1 h2
    have qL : decide ((30 : Int) < (L.length : Int)) = false := decide_eq_false (by omega)
    have qM : decide ((30 : Int) < (M.length : Int)) = true := decide_eq_true (by omega)
    have B0 := Aside0.mk (Below.refl w.heap.size w)
    go_enter Try.func6, Try.ntmps6
    go_wp2_with (first
      | (go_at_call_of 13 (Value.slice AL L.length cL); refine (F1.out _ (Kd.C_below HL.out B0.out)).mono ?_; rintro e w1 ⟨rfl, hd⟩; have B1 := Aside0.mk (below_step B0.out (drawn_below hd)); clear hd)
      | (go_at_call_of 13 (Value.slice AM M.length cM); refine (F2.out _ (Kd.C_below HM.out B1.out)).mono ?_; rintro e w2 ⟨rfl, hd⟩; have B2 := Aside0.mk (below_step B1.out (drawn_below hd)); clear hd)
      | (go_at_call 11; refine (FA.out _).mono ?_; rintro e w5 ⟨rfl, hb⟩; have B5 := Aside0.mk (below_step B2.out hb); clear hb))
    go_ret
    exact ⟨rfl, B5.out⟩
  · have F1 := Lib.hid (fun w hr => samphireref16_Small.calls kf AL cL L true w hr hcL h1)
    have F2 := Lib.hid (fun w hr => samphireref16_Small.calls kf AM cM M true w hr hcM h2)
    clear h1 h2
    have qL : decide ((30 : Int) < (L.length : Int)) = false := decide_eq_false (by omega)
    have qM : decide ((30 : Int) < (M.length : Int)) = false := decide_eq_false (by omega)
    have ql : decide ((200 : Int) < (l.length : Int)) = true := decide_eq_true (by omega)
    have B0 := Aside0.mk (Below.refl w.heap.size w)
    go_enter Try.func6, Try.ntmps6
    go_wp2_with (first
      | (go_at_call_of 13 (Value.slice AL L.length cL); refine (F1.out _ (Kd.C_below HL.out B0.out)).mono ?_; rintro e w1 ⟨rfl, hd⟩; have B1 := Aside0.mk (below_step B0.out (drawn_below hd)); clear hd)
      | (go_at_call_of 13 (Value.slice AM M.length cM); refine (F2.out _ (Kd.C_below HM.out B1.out)).mono ?_; rintro e w2 ⟨rfl, hd⟩; have B2 := Aside0.mk (below_step B1.out (drawn_below hd)); clear hd)
      | (go_at_call 11; refine (FA.out _).mono ?_; rintro e w5 ⟨rfl, hb⟩; have B5 := Aside0.mk (below_step B2.out hb); clear hb))
    go_ret
    exact ⟨rfl, B5.out⟩
end Go.Proofs.Ythgacimoifbhiaa
