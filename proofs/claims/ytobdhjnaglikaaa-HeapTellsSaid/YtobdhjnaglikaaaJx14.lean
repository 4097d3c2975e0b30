import Derived.Test.YtobdhjnaglikaaaQx0
import Derived.Test.YtobdhjnaglikaaaJx10
import Derived.Test.YtobdhjnaglikaaaJx11
import Derived.Test.YtobdhjnaglikaaaJx12
import Derived.Test.YtobdhjnaglikaaaJx13
namespace Go.Proofs.Ytobdhjnaglikaaa.Q
open Go.RowKit Go.Proofs.YtobdhjnaglikaaaW.PrintWords Go.Proofs.YtobdhjnaglikaaaW.PrintLast Go.Proofs.YtobdhjnaglikaaaW.PrintMore
attribute [local go_sem] max2_int min2_int max_two min_two max_three min_three max_four min_four
set_option linter.unusedVariables false
set_option linter.unusedSimpArgs false
def samphireref11_Pop.f (k : Nat) (l0 : List (S25)) : Option ((List (S25))) := if (wrap64 ((l0.length : Int) - 1)) = 0 then (some ([] : List (S25))) else (if 0 ≤ (wrap64 ((l0.length : Int) - 1)) then (if (wrap64 ((l0.length : Int) - 1)) ≤ (l0.length : Int) then ((samphireref11_copied.f (l0.take ((wrap64 ((l0.length : Int) - 1)) : Int).toNat)).bind fun t307 => (if (wrap64 ((l0.length : Int) - 1)) < (l0.length : Int) then (if 0 < (t307.length : Int) then ((samphireref11_Sink.f k (t307.set (0 : Int).toNat (⟨(rd_T25 l0 (wrap64 ((l0.length : Int) - 1))).f0, (rd_T25 l0 (wrap64 ((l0.length : Int) - 1))).f1, (rd_T25 l0 (wrap64 ((l0.length : Int) - 1))).f2⟩ : S25)) 0).bind fun t312 => (some t312)) else (none)) else (none))) else (none)) else (none))
set_option maxHeartbeats 8000000 in
set_option maxRecDepth 100000 in
theorem samphireref11_Pop.calls (k : Nat) (A0 : Option Addr) (c0 : Nat) (l0 : List (S25)) (r : List (S25)) (w : World) (hr0 : Kd.C k25 w A0 l0.length l0) (hc0 : l0.length ≤ c0) (h : samphireref11_Pop.f k l0 = some r) :
  Calls Try.prog 19 #[.slice A0 l0.length c0] w fun e w' => ∃ v0_ : Value, e = .returned (v0_) ∧ Kd.V k25 25 w' w.heap.size (fun k_ => (w.heap.size ≤ k_)) v0_ r ∧ Below w.heap.size w w' := by
 have hu25 := Try.underlying25
 have HR0 := Aside0.mk hr0
 have HC0 := Aside0.mk hc0
 clear hr0 hc0
 have HB := Aside0.mk (Below.refl w.heap.size w)
 have H : (if (wrap64 ((l0.length : Int) - 1)) = 0 then (some ([] : List (S25))) else (if 0 ≤ (wrap64 ((l0.length : Int) - 1)) then (if (wrap64 ((l0.length : Int) - 1)) ≤ (l0.length : Int) then ((samphireref11_copied.f (l0.take ((wrap64 ((l0.length : Int) - 1)) : Int).toNat)).bind fun t307 => (if (wrap64 ((l0.length : Int) - 1)) < (l0.length : Int) then (if 0 < (t307.length : Int) then ((samphireref11_Sink.f k (t307.set (0 : Int).toNat (⟨(rd_T25 l0 (wrap64 ((l0.length : Int) - 1))).f0, (rd_T25 l0 (wrap64 ((l0.length : Int) - 1))).f1, (rd_T25 l0 (wrap64 ((l0.length : Int) - 1))).f2⟩ : S25)) 0).bind fun t312 => (some t312)) else (none)) else (none))) else (none)) else (none))) = some r := h
 clear h
 by_cases c2 : (wrap64 ((l0.length : Int) - 1)) = 0
 ·
  rw [if_pos c2] at H
  have c2b0 : ((wrap64 ((l0.length : Int) - 1)) == 0) = true := beq_iff_eq.mpr c2
  have c2b1 : ((wrap64 ((l0.length : Int) - 1)) != 0) = false := bne_eq_false_iff_eq.mpr c2
  clear c2
  obtain rfl := Option.some.inj H
  go_enter Try.func19, Try.ntmps19
  go_wp2
  go_ret
  exact ⟨_, by first | rfl | (simp [errW_none, errW_some] <;> rfl) | (simp [*, errW_none, errW_some] <;> rfl), Kd.V_nil _ _ _ _ _, by repeat (first | (with_reducible first | exact HB.out | apply below_alloc | apply pw_below_drewN | apply below_drew1) | exact HB.out)⟩
 ·
  rw [if_neg c2] at H
  have c2b0 : ((wrap64 ((l0.length : Int) - 1)) == 0) = false := beq_eq_false_iff_ne.mpr c2
  have c2b1 : ((wrap64 ((l0.length : Int) - 1)) != 0) = true := bne_iff_ne.mpr c2
  obtain ⟨ji3, hji3⟩ : ∃ j_ : Int, (wrap64 ((l0.length : Int) - 1)) = j_ := ⟨_, rfl⟩
  replace H : (if 0 ≤ (ji3) then (if (ji3) ≤ (l0.length : Int) then ((samphireref11_copied.f (l0.take ((ji3) : Int).toNat)).bind fun t307 => (if (ji3) < (l0.length : Int) then (if 0 < (t307.length : Int) then ((samphireref11_Sink.f k (t307.set (0 : Int).toNat (⟨(rd_T25 l0 (ji3)).f0, (rd_T25 l0 (ji3)).f1, (rd_T25 l0 (ji3)).f2⟩ : S25)) 0).bind fun t312 => (some t312)) else (none)) else (none))) else (none)) else (none)) = some r := by first | (rw [hji3] at H; exact H) | (simp only [hji3] at H ⊢; exact H)
  (try rw [hji3] at c2b0)
  (try rw [hji3] at c2b1)
  have hji3w : (IntKind.i64.wrap ((l0.length : Int) - 1)) = ji3 := (i64_w _).trans hji3
  by_cases c4 : 0 ≤ (ji3)
  ·
   rw [if_pos c4] at H
   have c4b0 := eq_true c4
   have c4b1 : decide (0 ≤ (ji3)) = true := decide_eq_true c4
   clear c4
   by_cases c5 : (ji3) ≤ (l0.length : Int)
   ·
    rw [if_pos c5] at H
    have c5b0 := eq_true c5
    have c5b1 : decide ((ji3) ≤ (l0.length : Int)) = true := decide_eq_true c5
    clear c5
    obtain ⟨y303, hy303⟩ : ∃ y_ : List (S25), y_ = (l0.take ((ji3) : Int).toNat) := ⟨_, rfl⟩
    replace H : ((samphireref11_copied.f y303).bind fun t307 => (if (ji3) < (l0.length : Int) then (if 0 < (t307.length : Int) then ((samphireref11_Sink.f k (t307.set (0 : Int).toNat (⟨(rd_T25 l0 (ji3)).f0, (rd_T25 l0 (ji3)).f1, (rd_T25 l0 (ji3)).f2⟩ : S25)) 0).bind fun t312 => (some t312)) else (none)) else (none))) = some r := by first | (rw [hy303]; with_reducible exact H) | (have H2_ := (Option.bind_some _ _).symm.trans H; rw [hy303]; with_reducible exact H2_) | (have H2_ := (Option.bind_some _ _).symm.trans H; with_reducible exact H2_) | with_reducible exact H | (rw [hy303]; exact H) | exact H
    have Ny303 := Aside0.mk hy303
    clear hy303
    replace H := Option.bind_eq_some_iff.mp H
    obtain ⟨t307, A60, H⟩ := H
    replace H : (if (ji3) < (l0.length : Int) then (if 0 < (t307.length : Int) then ((samphireref11_Sink.f k (t307.set (0 : Int).toNat (⟨(rd_T25 l0 (ji3)).f0, (rd_T25 l0 (ji3)).f1, (rd_T25 l0 (ji3)).f2⟩ : S25)) 0).bind fun t312 => (some t312)) else (none)) else (none)) = some r := H
    have A6 := Aside0.mk A60
    clear A60
    by_cases c7 : (ji3) < (l0.length : Int)
    ·
     rw [if_pos c7] at H
     have c7b0 : decide ((ji3) < (l0.length : Int)) = true := decide_eq_true c7
     clear c7
     by_cases c8 : 0 < (t307.length : Int)
     ·
      rw [if_pos c8] at H
      have c8b0 : decide (0 < (t307.length : Int)) = true := decide_eq_true c8
      have c8b1 : decide (0 < t307.length) = true := decide_eq_true (by omega)
      clear c8
      obtain ⟨y311, hy311⟩ : ∃ y_ : List (S25), y_ = (t307.set (0 : Int).toNat (⟨(rd_T25 l0 (ji3)).f0, (rd_T25 l0 (ji3)).f1, (rd_T25 l0 (ji3)).f2⟩ : S25)) := ⟨_, rfl⟩
      replace H : ((samphireref11_Sink.f k y311 0).bind fun t312 => (some t312)) = some r := by first | (rw [hy311]; with_reducible exact H) | (have H2_ := (Option.bind_some _ _).symm.trans H; rw [hy311]; with_reducible exact H2_) | (have H2_ := (Option.bind_some _ _).symm.trans H; with_reducible exact H2_) | with_reducible exact H | (rw [hy311]; exact H) | exact H
      have Ny311 := Aside0.mk hy311
      clear hy311
      replace H := Option.bind_eq_some_iff.mp H
      obtain ⟨t312, A100, H⟩ := H
      replace H : (some t312) = some r := H
      have A10 := Aside0.mk A100
      clear A100
      obtain rfl := Option.some.inj H
      have q11 : ((ji3) : Int) ≤ ((l0.length : Int) : Int) := of_decide_eq_true (by first | (with_reducible assumption) | assumption)
      obtain ⟨i011, hi011, _, hsz11, _⟩ := info_parts info25
      have hroom11 : l0.length ≤ c0 := HC0.out
      have hC11 : Kd.C k25 _ A0 l0.length l0 := HR0.out
      have hcut11 := cut_to (P := Try.prog) 22 25 .i64 Try.underlying22 hi011 A0 l0.length c0 (ji3) (of_decide_eq_true (by first | (with_reducible assumption) | assumption)) q11 hroom11
      have hr11 := Kd.C_take (m := ((ji3) : Int).toNat) hC11 (by omega)
      have hy11 : y303.length = ((ji3) : Int).toNat := (by rw [Ny303.out, List.length_take]; omega)
      rw [← Ny303.out] at hr11
      rw [← hy11] at hcut11
      have HR306 := Aside0.mk hr11
      have HC306 := Aside0.mk (show y303.length ≤ c0 from by omega)
      clear hr11 hC11 hroom11 hi011 hsz11
      have KY11 := Aside0.mk hy11
      clear hy11
      replace q11 := eq_true q11
      go_enter Try.func19, Try.ntmps19
      go_wp2_with (first | ((with_reducible refine gate_callee (f := 35) rfl ?_); refine goesL_ (some 13) rfl rfl Try.func35 (by kernel_rfl) rfl #[.slice A0 y303.length c0] rfl (by (try simp only [List.map_toArray, List.map_cons, List.map_nil]); first | done | rfl | (simp only [List.length_drop, List.length_take]; rfl)) ?_; (with_reducible refine (samphireref11_copied.calls _ _ y303 t307 _ ?side1 ?side2 A6.out).mono ?_); (case side1 => repeat (first | exact HR306.out | (with_reducible refine Kd.C_alloc ?_ _) | (with_reducible refine Kd.C_drewN ?_ _) | (with_reducible refine Kd.C_drew ?_))); (case side2 => exact HC306.out); rintro e w12 ⟨v308, rfl, ho0, hb⟩; refine ⟨_, rfl, ?_⟩; have n0_ := Aside0.mk (Kd.R_lower (Kd.R_newM (M := fun k_ => (w.heap.size ≤ k_)) ho0 (below_size (bW HB.out)) (fun k_ h_ => h_)) (below_size (bW HB.out))); have n1_ := Aside0.mk (below_step (bW HB.out) hb); clear HB; have HO309 := n0_; have HB := n1_; clear n0_ n1_; (try clear hb); (try clear hb2); (try clear hk); (try clear hi); (try clear ho0); have p310 : 0 ≤ ((ji3) : Int) := of_decide_eq_true (by first | (with_reducible assumption) | assumption); have q310 : (ji3) < (l0.length : Int) := of_decide_eq_true (by first | (with_reducible assumption) | assumption); obtain ⟨ad310, e310, hx310_0, hx310_1, hx310_2⟩ := at_T25 HR0.out (ji3) p310 q310; cases e310; replace hx310_0 := (HB.out.cell (World.block_lt_of_cell? w _ hx310_0)).trans hx310_0; replace hx310_1 := (HB.out.cell (World.block_lt_of_cell? w _ hx310_1)).trans hx310_1; replace hx310_2 := (HB.out.cell (World.block_lt_of_cell? w _ hx310_2)).trans hx310_2; replace p310 := eq_true p310; replace q310 := eq_true q310; have p9 : 0 ≤ (0 : Int) := (by omega); have q9 : (0 : Int) < ((t307.length : Int) : Int) := of_decide_eq_true (by first | (with_reducible assumption) | assumption); have qi9 : (0 < t307.length) = True := eq_true (by omega); obtain ⟨go9, co9, eo9, gb9, gl9, cl9, HG9⟩ := Kd.R_form HO309.out (by omega); (first | cases eo9 | (injection eo9 with ea_ en_ ec_; (first | subst ea_ | (injection ea_ with ea_; subst ea_)); subst ec_; clear en_)); have GB9 := Aside0.mk gb9; have GG9 := Aside0.mk HG9; clear gb9 gl9 HG9; obtain ⟨ce9, hcl9, hM9, hcc9, hfr9⟩ := Kd.R_elem HO309.out z25 (0 : Int) p9 q9; obtain rfl := k25_openM hM9; have hx9_0 : w12.cell? ⟨go9, (0 : Int).toNat * 3, none⟩ = some (.string ((rd_T25 t307 0).f0)) := hcc9 0 _ rfl; have hx9_1 : w12.cell? ⟨go9, (0 : Int).toNat * 3 + 1, none⟩ = some (.int .u64 ((rd_T25 t307 0).f1)) := hcc9 1 _ rfl; have hx9_2 : w12.cell? ⟨go9, (0 : Int).toNat * 3 + 2, none⟩ = some (.int .u64 ((rd_T25 t307 0).f2)) := hcc9 2 _ rfl; have hf9_0 : w12.frozen? ⟨go9, (0 : Int).toNat * 3, none⟩ = false := hfr9 0; have hf9_1 : w12.frozen? ⟨go9, (0 : Int).toNat * 3 + 1, none⟩ = false := hfr9 1; have hf9_2 : w12.frozen? ⟨go9, (0 : Int).toNat * 3 + 2, none⟩ = false := hfr9 2; clear hcl9 hcc9 hfr9 hM9; (try rw [show ((0 : Int)).toNat = 0 from rfl] at hx9_0); (try simp only [Nat.reduceMul, Nat.zero_mul, Nat.zero_add, Nat.reduceAdd] at hx9_0); (try rw [show ((0 : Int)).toNat = 0 from rfl] at hf9_0); (try simp only [Nat.reduceMul, Nat.zero_mul, Nat.zero_add, Nat.reduceAdd] at hf9_0); (try rw [show ((0 : Int)).toNat = 0 from rfl] at hx9_1); (try simp only [Nat.reduceMul, Nat.zero_mul, Nat.zero_add, Nat.reduceAdd] at hx9_1); (try rw [show ((0 : Int)).toNat = 0 from rfl] at hf9_1); (try simp only [Nat.reduceMul, Nat.zero_mul, Nat.zero_add, Nat.reduceAdd] at hf9_1); (try rw [show ((0 : Int)).toNat = 0 from rfl] at hx9_2); (try simp only [Nat.reduceMul, Nat.zero_mul, Nat.zero_add, Nat.reduceAdd] at hx9_2); (try rw [show ((0 : Int)).toNat = 0 from rfl] at hf9_2); (try simp only [Nat.reduceMul, Nat.zero_mul, Nat.zero_add, Nat.reduceAdd] at hf9_2); replace p9 := eq_true p9; replace q9 := eq_true q9; have n_ := Aside0.mk (Kd.R_mono (ok' := (fun k_ => (w.heap.size ≤ k_))) HO309.out (fun k_ hk => hk.1)); clear HO309; have HO309 := n_; clear n_; have HX13 := Aside0.mk (show Kd.R k25 25 w12 w.heap.size (fun k_ => (w.heap.size ≤ k_)) (.slice (some ⟨go9, 0, none⟩) t307.length co9) t307 from (by (with_reducible repeat (first | apply Kd.R_alloc | apply Kd.R_drewN | apply Kd.R_drew)); exact HO309.out)); obtain ⟨ce13, hcl13, hM13, hcc13, hfr13⟩ := Kd.R_elem HX13.out z25 (0 : Int) (by omega) (by have h_ : (0 : Int) < ((t307.length : Int) : Int) := of_decide_eq_true (by first | (with_reducible assumption) | assumption); first | exact h_ | (have e_ := (Kd.R_reads' HO309.out).1; omega) | simpa using h_); obtain rfl := k25_openM hM13; have HP13 := Kd.R_seg HX13.out (0 : Int) (by omega) (by have h_ : (0 : Int) < ((t307.length : Int) : Int) := of_decide_eq_true (by first | (with_reducible assumption) | assumption); first | exact h_ | (have e_ := (Kd.R_reads' HO309.out).1; omega) | simpa using h_) (seg := [.string ((rd_T25 l0 (ji3)).f0), .int .u64 ((rd_T25 l0 (ji3)).f1), .int .u64 ((rd_T25 l0 (ji3)).f2)]) (j := 0) hcl13 hcc13 (show 3 ≤ 3 from by decide) (x' := (⟨(rd_T25 l0 (ji3)).f0, (rd_T25 l0 (ji3)).f1, (rd_T25 l0 (ji3)).f2⟩ : S25)) (k25_mkM _ _ _ (⟨(rd_T25 l0 (ji3)).f0, (rd_T25 l0 (ji3)).f1, (rd_T25 l0 (ji3)).f2⟩ : S25) ) (fun _ hk => hk); have hx13_0 := hcc13 0 _ rfl; (try simp only [show (k25).sz = 3 from rfl, Nat.mul_one, Nat.add_zero] at hx13_0); (try rw [show ((0 : Int)).toNat = 0 from rfl] at hx13_0); (try simp only [Nat.reduceMul, Nat.zero_mul, Nat.zero_add, Nat.reduceAdd] at hx13_0); have hf13_0 := hfr13 0; (try simp only [show (k25).sz = 3 from rfl, Nat.mul_one, Nat.add_zero] at hf13_0); (try rw [show ((0 : Int)).toNat = 0 from rfl] at hf13_0); (try simp only [Nat.reduceMul, Nat.zero_mul, Nat.zero_add, Nat.reduceAdd] at hf13_0); have hx13_1 := hcc13 1 _ rfl; (try simp only [show (k25).sz = 3 from rfl, Nat.mul_one, Nat.add_zero] at hx13_1); (try rw [show ((0 : Int)).toNat = 0 from rfl] at hx13_1); (try simp only [Nat.reduceMul, Nat.zero_mul, Nat.zero_add, Nat.reduceAdd] at hx13_1); have hf13_1 := hfr13 1; (try simp only [show (k25).sz = 3 from rfl, Nat.mul_one, Nat.add_zero] at hf13_1); (try rw [show ((0 : Int)).toNat = 0 from rfl] at hf13_1); (try simp only [Nat.reduceMul, Nat.zero_mul, Nat.zero_add, Nat.reduceAdd] at hf13_1); have hx13_2 := hcc13 2 _ rfl; (try simp only [show (k25).sz = 3 from rfl, Nat.mul_one, Nat.add_zero] at hx13_2); (try rw [show ((0 : Int)).toNat = 0 from rfl] at hx13_2); (try simp only [Nat.reduceMul, Nat.zero_mul, Nat.zero_add, Nat.reduceAdd] at hx13_2); have hf13_2 := hfr13 2; (try simp only [show (k25).sz = 3 from rfl, Nat.mul_one, Nat.add_zero] at hf13_2); (try rw [show ((0 : Int)).toNat = 0 from rfl] at hf13_2); (try simp only [Nat.reduceMul, Nat.zero_mul, Nat.zero_add, Nat.reduceAdd] at hf13_2); clear hcl13 hcc13 hfr13 hM13) | ((with_reducible refine gate_store (t := 25) (p := 19) rfl ?_); refine store_event (t := 25) (p := 19) (v := ?vo_w14) (w1 := (((w12.setCell ⟨go9, 0, none⟩ (.string ((rd_T25 l0 (ji3)).f0))).setCell ⟨go9, 1, none⟩ (.int .u64 ((rd_T25 l0 (ji3)).f1))).setCell ⟨go9, 2, none⟩ (.int .u64 ((rd_T25 l0 (ji3)).f2)))) ?hg ?ho ?hn ?hr ?_; (case ho => rfl); (case hg => rfl); (case hn => rfl); (case hr => first | (go_simp; done) | (go_simp; rfl)); intro w14 hw; have hg : w12.grownBy w14 (some go9) := (by rw [hw]; exact HP13.2); have hp_ : Kd.R k25 25 w14 w.heap.size (fun k_ => (w.heap.size ≤ k_)) (.slice (some ⟨go9, 0, none⟩) t307.length co9) y311 := (by rw [hw, Ny311.out]; exact HP13.1); clear HP13; have n0_ := Aside0.mk (hp_); have n1_ := Aside0.mk ((by rw [hw]; exact below_set (below_set (below_set (HB.out) GB9.out) GB9.out) GB9.out : Below w.heap.size w w14)); clear HO309 HB; have HO309 := n0_; have HB := n1_; clear n0_ n1_ hg hw hp_) | ((with_reducible refine gate_callee (f := 36) rfl ?_); refine goesL_ (some 21) rfl rfl Try.func36 (by kernel_rfl) rfl #[.slice (some ⟨go9, 0, none⟩) y311.length co9, .int .i64 0] rfl (by (try simp only [List.map_toArray, List.map_cons, List.map_nil]); first | done | (rw [show y311.length = t307.length from (Kd.R_reads' HO309.out).1.symm] <;> rfl) | rfl | (simp only [List.length_drop, List.length_take]; rfl)) ?_; (with_reducible refine (samphireref11_Sink.calls k (fun k_ => some k_ = (.slice (some ⟨go9, 0, none⟩) t307.length co9 : Value).ownBlock) _ _ y311 0 t312 _ ?side1 A10.out).mono ?_); (case side1 => rw [show y311.length = t307.length from (Kd.R_reads' HO309.out).1.symm]; exact Kd.R_V (Kd.R_tight rfl (HO309.out))); rintro e w15 ⟨v313, rfl, ho0, hb⟩; refine ⟨_, rfl, ?_⟩; have n0_ := Aside0.mk (Kd.R_below (by (with_reducible repeat (first | apply Kd.R_alloc | apply Kd.R_drewN | apply Kd.R_drew)); exact HO309.out) hb); have n1_ := Aside0.mk (Kd.V_lower (Kd.V_mono (ok' := fun k_ => (w.heap.size ≤ k_)) ho0 (fun k_ hk_ => Or.elim hk_ (fun hs_ => ((HO309.out).1 k_ hs_.symm)) (fun hn_ => (Nat.le_trans (below_size (bW HB.out)) hn_)))) (below_size (bW HB.out))); have n2_ := Aside0.mk (below_step (bW HB.out) hb); clear HO309 HB; have HO309 := n0_; have HO314 := n1_; have HB := n2_; clear n0_ n1_ n2_; (try clear hb); (try clear hb2); (try clear hk); (try clear hi); (try clear ho0)))
      go_ret
      exact ⟨_, by first | rfl | (simp [errW_none, errW_some] <;> rfl) | (simp only [← hji3]; first | rfl | (simp [errW_none, errW_some] <;> rfl)) | (simp [*, errW_none, errW_some] <;> rfl), by (with_reducible repeat (first | apply Kd.V_alloc | apply Kd.V_drewN | apply Kd.V_drew)); exact HO314.out, by repeat (first | (with_reducible first | exact HB.out | apply below_alloc | apply pw_below_drewN | apply below_drew1) | exact HB.out)⟩
     ·
      rw [if_neg c8] at H
      exact absurd H (by simp)
    ·
     rw [if_neg c7] at H
     exact absurd H (by simp)
   ·
    rw [if_neg c5] at H
    exact absurd H (by simp)
  ·
   rw [if_neg c4] at H
   exact absurd H (by simp)
def samphireref11_Put.f (k : Nat) (l0 : List (S25)) (a1 : Int) (a2_0 : ByteArray) (a2_1 : Int) (a2_2 : Int) : Option ((List (S25))) := (samphireref11_copied.f l0).bind fun t316 => (if 0 ≤ a1 then (if a1 < (t316.length : Int) then ((some (t316.set (a1 : Int).toNat (⟨a2_0, a2_1, a2_2⟩ : S25) : List (S25))).bind fun y319 => ((samphireref11_Lift.f k y319 a1).bind fun t320 => (if a1 > 0 then (if 0 ≤ (wrap64 (Int.tdiv (wrap64 (a1 - 1)) 2)) then (if (wrap64 (Int.tdiv (wrap64 (a1 - 1)) 2)) < (l0.length : Int) then ((samphireref10_Cmp.f a2_0 a2_1 a2_2 ((rd_T25 l0 (wrap64 (Int.tdiv (wrap64 (a1 - 1)) 2))).f0) ((rd_T25 l0 (wrap64 (Int.tdiv (wrap64 (a1 - 1)) 2))).f1) ((rd_T25 l0 (wrap64 (Int.tdiv (wrap64 (a1 - 1)) 2))).f2)).bind fun t324 => (if t324 > 0 then (some t320) else ((samphireref11_Sink.f k y319 a1).bind fun t325 => (some t325)))) else (none)) else (none)) else ((samphireref11_Sink.f k y319 a1).bind fun t328 => (some t328))))) else (none)) else (none))
def samphireref11_Put.T4 : Bool × List (List Nat × List Nat) := (true, [([], []), ([0], [0]), ([1], [1]), ([2], [2]), ([2], [2]), ([2], [2]), ([5, 2], [2, 5]), ([6, 2], [2, 6]), ([4, 7, 2], [2, 4, 7]), ([8, 2], [2, 8]), ([3, 9, 2, 2], [2, 3, 9]), ([10, 2], [2, 10]), ([2, 11], [2, 11])])
def samphireref11_Put.B4 : List Nat := [0, 1, 3, 7, 7, 7, 39, 103, 247, 503, 1023, 2047, 4095]
theorem samphireref11_Put.tab4 : rtab .any (opsOf Try.f20 4) = samphireref11_Put.T4 := by kernel_rfl
theorem samphireref11_Put.bits4 : waitsOk samphireref11_Put.T4.2 samphireref11_Put.B4 = true := by kernel_rfl
set_option maxHeartbeats 8000000 in
set_option maxRecDepth 100000 in
theorem samphireref11_Put.calls (k : Nat) (A0 : Option Addr) (c0 : Nat) (l0 : List (S25)) (a1 : Int) (a2_0 : ByteArray) (a2_1 : Int) (a2_2 : Int) (r : List (S25)) (w : World) (hr0 : Kd.C k25 w A0 l0.length l0) (hc0 : l0.length ≤ c0) (h : samphireref11_Put.f k l0 a1 a2_0 a2_1 a2_2 = some r) :
  Calls Try.prog 20 #[.slice A0 l0.length c0, .int .i64 a1, .agg #[.string a2_0, .int .u64 a2_1, .int .u64 a2_2]] w fun e w' => ∃ v0_ : Value, e = .returned (v0_) ∧ Kd.V k25 25 w' w.heap.size (fun k_ => (w.heap.size ≤ k_)) v0_ r ∧ Below w.heap.size w w' := by
 have hu25 := Try.underlying25
 have HR0 := Aside0.mk hr0
 have HC0 := Aside0.mk hc0
 clear hr0 hc0
 have HB := Aside0.mk (Below.refl w.heap.size w)
 have H : ((samphireref11_copied.f l0).bind fun t316 => (if 0 ≤ a1 then (if a1 < (t316.length : Int) then ((some (t316.set (a1 : Int).toNat (⟨a2_0, a2_1, a2_2⟩ : S25) : List (S25))).bind fun y319 => ((samphireref11_Lift.f k y319 a1).bind fun t320 => (if a1 > 0 then (if 0 ≤ (wrap64 (Int.tdiv (wrap64 (a1 - 1)) 2)) then (if (wrap64 (Int.tdiv (wrap64 (a1 - 1)) 2)) < (l0.length : Int) then ((samphireref10_Cmp.f a2_0 a2_1 a2_2 ((rd_T25 l0 (wrap64 (Int.tdiv (wrap64 (a1 - 1)) 2))).f0) ((rd_T25 l0 (wrap64 (Int.tdiv (wrap64 (a1 - 1)) 2))).f1) ((rd_T25 l0 (wrap64 (Int.tdiv (wrap64 (a1 - 1)) 2))).f2)).bind fun t324 => (if t324 > 0 then (some t320) else ((samphireref11_Sink.f k y319 a1).bind fun t325 => (some t325)))) else (none)) else (none)) else ((samphireref11_Sink.f k y319 a1).bind fun t328 => (some t328))))) else (none)) else (none))) = some r := h
 clear h
 replace H := Option.bind_eq_some_iff.mp H
 obtain ⟨t316, A40, H⟩ := H
 replace H : (if 0 ≤ a1 then (if a1 < (t316.length : Int) then ((some (t316.set (a1 : Int).toNat (⟨a2_0, a2_1, a2_2⟩ : S25) : List (S25))).bind fun y319 => ((samphireref11_Lift.f k y319 a1).bind fun t320 => (if a1 > 0 then (if 0 ≤ (wrap64 (Int.tdiv (wrap64 (a1 - 1)) 2)) then (if (wrap64 (Int.tdiv (wrap64 (a1 - 1)) 2)) < (l0.length : Int) then ((samphireref10_Cmp.f a2_0 a2_1 a2_2 ((rd_T25 l0 (wrap64 (Int.tdiv (wrap64 (a1 - 1)) 2))).f0) ((rd_T25 l0 (wrap64 (Int.tdiv (wrap64 (a1 - 1)) 2))).f1) ((rd_T25 l0 (wrap64 (Int.tdiv (wrap64 (a1 - 1)) 2))).f2)).bind fun t324 => (if t324 > 0 then (some t320) else ((samphireref11_Sink.f k y319 a1).bind fun t325 => (some t325)))) else (none)) else (none)) else ((samphireref11_Sink.f k y319 a1).bind fun t328 => (some t328))))) else (none)) else (none)) = some r := H
 have A4 := Aside0.mk A40
 clear A40
 by_cases c5 : 0 ≤ a1
 ·
  rw [if_pos c5] at H
  have c5b0 : decide (0 ≤ a1) = true := decide_eq_true c5
  clear c5
  by_cases c6 : a1 < (t316.length : Int)
  ·
   rw [if_pos c6] at H
   have c6b0 : decide (a1 < (t316.length : Int)) = true := decide_eq_true c6
   clear c6
   obtain ⟨y319, hy319⟩ : ∃ y_ : List (S25), y_ = (t316.set (a1 : Int).toNat (⟨a2_0, a2_1, a2_2⟩ : S25)) := ⟨_, rfl⟩
   replace H : ((samphireref11_Lift.f k y319 a1).bind fun t320 => (if a1 > 0 then (if 0 ≤ (wrap64 (Int.tdiv (wrap64 (a1 - 1)) 2)) then (if (wrap64 (Int.tdiv (wrap64 (a1 - 1)) 2)) < (l0.length : Int) then ((samphireref10_Cmp.f a2_0 a2_1 a2_2 ((rd_T25 l0 (wrap64 (Int.tdiv (wrap64 (a1 - 1)) 2))).f0) ((rd_T25 l0 (wrap64 (Int.tdiv (wrap64 (a1 - 1)) 2))).f1) ((rd_T25 l0 (wrap64 (Int.tdiv (wrap64 (a1 - 1)) 2))).f2)).bind fun t324 => (if t324 > 0 then (some t320) else ((samphireref11_Sink.f k y319 a1).bind fun t325 => (some t325)))) else (none)) else (none)) else ((samphireref11_Sink.f k y319 a1).bind fun t328 => (some t328)))) = some r := by first | (rw [hy319]; with_reducible exact H) | (have H2_ := (Option.bind_some _ _).symm.trans H; rw [hy319]; with_reducible exact H2_) | (have H2_ := (Option.bind_some _ _).symm.trans H; with_reducible exact H2_) | with_reducible exact H | (rw [hy319]; exact H) | exact H
   have Ny319 := Aside0.mk hy319
   clear hy319
   replace H := Option.bind_eq_some_iff.mp H
   obtain ⟨t320, A80, H⟩ := H
   replace H : (if a1 > 0 then (if 0 ≤ (wrap64 (Int.tdiv (wrap64 (a1 - 1)) 2)) then (if (wrap64 (Int.tdiv (wrap64 (a1 - 1)) 2)) < (l0.length : Int) then ((samphireref10_Cmp.f a2_0 a2_1 a2_2 ((rd_T25 l0 (wrap64 (Int.tdiv (wrap64 (a1 - 1)) 2))).f0) ((rd_T25 l0 (wrap64 (Int.tdiv (wrap64 (a1 - 1)) 2))).f1) ((rd_T25 l0 (wrap64 (Int.tdiv (wrap64 (a1 - 1)) 2))).f2)).bind fun t324 => (if t324 > 0 then (some t320) else ((samphireref11_Sink.f k y319 a1).bind fun t325 => (some t325)))) else (none)) else (none)) else ((samphireref11_Sink.f k y319 a1).bind fun t328 => (some t328))) = some r := H
   have A8 := Aside0.mk A80
   clear A80
   by_cases c9 : a1 > 0
   ·
    rw [if_pos c9] at H
    have c9b0 : decide (0 < a1) = true := decide_eq_true c9
    clear c9
    obtain ⟨ji10, hji10⟩ : ∃ j_ : Int, (wrap64 (Int.tdiv (wrap64 (a1 - 1)) 2)) = j_ := ⟨_, rfl⟩
    replace H : (if 0 ≤ (ji10) then (if (ji10) < (l0.length : Int) then ((samphireref10_Cmp.f a2_0 a2_1 a2_2 ((rd_T25 l0 (ji10)).f0) ((rd_T25 l0 (ji10)).f1) ((rd_T25 l0 (ji10)).f2)).bind fun t324 => (if t324 > 0 then (some t320) else ((samphireref11_Sink.f k y319 a1).bind fun t325 => (some t325)))) else (none)) else (none)) = some r := by first | (rw [hji10] at H; exact H) | (simp only [hji10] at H ⊢; exact H)
    (try rw [hji10] at A4)
    (try rw [hji10] at A8)
    have hji10w : (IntKind.i64.wrap (Int.tdiv (wrap64 (a1 - 1)) 2)) = ji10 := (i64_w _).trans hji10
    by_cases c11 : 0 ≤ (ji10)
    ·
     rw [if_pos c11] at H
     have c11b0 : decide (0 ≤ (ji10)) = true := decide_eq_true c11
     clear c11
     by_cases c12 : (ji10) < (l0.length : Int)
     ·
      rw [if_pos c12] at H
      have c12b0 : decide ((ji10) < (l0.length : Int)) = true := decide_eq_true c12
      clear c12
      replace H := Option.bind_eq_some_iff.mp H
      obtain ⟨t324, A130, H⟩ := H
      replace H : (if t324 > 0 then (some t320) else ((samphireref11_Sink.f k y319 a1).bind fun t325 => (some t325))) = some r := H
      have A13 := Aside0.mk A130
      clear A130
      by_cases c14 : t324 > 0
      ·
       rw [if_pos c14] at H
       have c14b0 : decide (0 < t324) = true := decide_eq_true c14
       clear c14
       obtain rfl := Option.some.inj H
       go_enter Try.func20, Try.ntmps20
       try go_wp2_with (first | ((with_reducible refine gate_dst (N := 5) rfl ?_); refine box_event ?hg (N := 5) ?hd (cs := #[.string a2_0, .int .u64 a2_1, .int .u64 a2_2]) (t := 25) ?hr ?_; (case hd => rfl); (case hg => rfl); (case hr => first | (go_simp; done) | (go_simp; rfl)); intro gb315 hg w15 hbox hb; have n0_ := Aside0.mk (below_step (bW HB.out) hb); have n1_ := Aside0.mk (hbox); have n2_ := Aside0.mk ((by rw [hg]; exact (below_size (bW HB.out)) : w.heap.size ≤ gb315)); have n3_ := Aside0.mk ((by rw [hg]; exact (below_size (bW HB.out)) : w.heap.size ≤ gb315)); clear HB; have HB := n0_; have BK315 := n1_; have GW315 := n2_; have GE315 := n3_; clear n0_ n1_ n2_ n3_ hb hbox hg) | ((with_reducible refine gate_callee (f := 35) rfl ?_); refine goesL_ (some 10) rfl rfl Try.func35 (by kernel_rfl) rfl #[.slice A0 l0.length c0] rfl (by (try simp only [List.map_toArray, List.map_cons, List.map_nil]); first | done | rfl | (simp only [List.length_drop, List.length_take]; rfl)) ?_; (with_reducible refine (samphireref11_copied.calls _ _ l0 t316 _ ?side1 ?side2 A4.out).mono ?_); (case side1 => repeat (first | exact (Kd.C_below HR0.out HB.out) | (with_reducible refine Kd.C_alloc ?_ _) | (with_reducible refine Kd.C_drewN ?_ _) | (with_reducible refine Kd.C_drew ?_))); (case side2 => exact HC0.out); rintro e w16 ⟨v317, rfl, ho0, hb⟩; refine ⟨_, rfl, ?_⟩; have n0_ := Aside0.mk (Kd.R_lower (Kd.R_newB (Kd.R_newM (M := fun k_ => (w.heap.size ≤ k_)) ho0 (below_size (bW HB.out)) (fun k_ h_ => h_)) (bT BK315.out)) (below_size (bW HB.out))); have n1_ := Aside0.mk (blk_below (bT BK315.out) hb); have n2_ := Aside0.mk (below_step (bW HB.out) hb); clear BK315 HB; have HO318 := n0_; have BK315 := n1_; have HB := n2_; clear n0_ n1_ n2_; (try clear hb); (try clear hb2); (try clear hk); (try clear hi); (try clear ho0); have hcz17_0 : w16.cell? ⟨gb315, 0, none⟩ = some (.string a2_0) := (blk_cell BK315.out 0).trans rfl; have hcz17_1 : w16.cell? ⟨gb315, 1, none⟩ = some (.int .u64 a2_1) := (blk_cell BK315.out 1).trans rfl; have hcz17_2 : w16.cell? ⟨gb315, 2, none⟩ = some (.int .u64 a2_2) := (blk_cell BK315.out 2).trans rfl; have hfz17_0 := blk_frozen BK315.out 0; have hfz17_1 := blk_frozen BK315.out 1; have hfz17_2 := blk_frozen BK315.out 2; have p7 : 0 ≤ (a1 : Int) := of_decide_eq_true (by first | (with_reducible assumption) | assumption); have q7 : (a1 : Int) < ((t316.length : Int) : Int) := of_decide_eq_true (by first | (with_reducible assumption) | assumption); obtain ⟨go7, co7, eo7, gb7, gl7, cl7, HG7⟩ := Kd.R_form HO318.out (by omega); (first | cases eo7 | (injection eo7 with ea_ en_ ec_; (first | subst ea_ | (injection ea_ with ea_; subst ea_)); subst ec_; clear en_)); have GB7 := Aside0.mk gb7; have GG7 := Aside0.mk HG7; clear gb7 gl7 HG7; obtain ⟨ce7, hcl7, hM7, hcc7, hfr7⟩ := Kd.R_elem HO318.out z25 (a1 : Int) p7 q7; obtain rfl := k25_openM hM7; have hx7_0 : w16.cell? ⟨go7, (a1 : Int).toNat * 3, none⟩ = some (.string ((rd_T25 t316 a1).f0)) := hcc7 0 _ rfl; have hx7_1 : w16.cell? ⟨go7, (a1 : Int).toNat * 3 + 1, none⟩ = some (.int .u64 ((rd_T25 t316 a1).f1)) := hcc7 1 _ rfl; have hx7_2 : w16.cell? ⟨go7, (a1 : Int).toNat * 3 + 2, none⟩ = some (.int .u64 ((rd_T25 t316 a1).f2)) := hcc7 2 _ rfl; have hf7_0 : w16.frozen? ⟨go7, (a1 : Int).toNat * 3, none⟩ = false := hfr7 0; have hf7_1 : w16.frozen? ⟨go7, (a1 : Int).toNat * 3 + 1, none⟩ = false := hfr7 1; have hf7_2 : w16.frozen? ⟨go7, (a1 : Int).toNat * 3 + 2, none⟩ = false := hfr7 2; clear hcl7 hcc7 hfr7 hM7; replace p7 := eq_true p7; replace q7 := eq_true q7; have n_ := Aside0.mk (Kd.R_mono (ok' := (fun k_ => (w.heap.size ≤ k_) ∧ k_ ≠ gb315)) HO318.out (fun k_ hk => ⟨hk.1.1, hk.2⟩)); clear HO318; have HO318 := n_; clear n_; have HX18 := Aside0.mk (show Kd.R k25 25 w16 w.heap.size (fun k_ => (w.heap.size ≤ k_) ∧ k_ ≠ gb315) (.slice (some ⟨go7, 0, none⟩) t316.length co7) t316 from (by (with_reducible repeat (first | apply Kd.R_alloc | apply Kd.R_drewN | apply Kd.R_drew)); exact HO318.out)); obtain ⟨ce18, hcl18, hM18, hcc18, hfr18⟩ := Kd.R_elem HX18.out z25 (a1 : Int) (of_decide_eq_true (by first | (with_reducible assumption) | assumption)) (by have h_ : (a1 : Int) < ((t316.length : Int) : Int) := of_decide_eq_true (by first | (with_reducible assumption) | assumption); first | exact h_ | (have e_ := (Kd.R_reads' HO318.out).1; omega) | simpa using h_); obtain rfl := k25_openM hM18; have HP18 := Kd.R_seg HX18.out (a1 : Int) (of_decide_eq_true (by first | (with_reducible assumption) | assumption)) (by have h_ : (a1 : Int) < ((t316.length : Int) : Int) := of_decide_eq_true (by first | (with_reducible assumption) | assumption); first | exact h_ | (have e_ := (Kd.R_reads' HO318.out).1; omega) | simpa using h_) (seg := [.string a2_0, .int .u64 a2_1, .int .u64 a2_2]) (j := 0) hcl18 hcc18 (show 3 ≤ 3 from by decide) (x' := (⟨a2_0, a2_1, a2_2⟩ : S25)) (k25_mkM _ _ _ (⟨a2_0, a2_1, a2_2⟩ : S25) ) (fun _ hk => hk); have hx18_0 := hcc18 0 _ rfl; (try simp only [show (k25).sz = 3 from rfl, Nat.mul_one, Nat.add_zero] at hx18_0); have hf18_0 := hfr18 0; (try simp only [show (k25).sz = 3 from rfl, Nat.mul_one, Nat.add_zero] at hf18_0); have hx18_1 := hcc18 1 _ rfl; (try simp only [show (k25).sz = 3 from rfl, Nat.mul_one, Nat.add_zero] at hx18_1); have hf18_1 := hfr18 1; (try simp only [show (k25).sz = 3 from rfl, Nat.mul_one, Nat.add_zero] at hf18_1); have hx18_2 := hcc18 2 _ rfl; (try simp only [show (k25).sz = 3 from rfl, Nat.mul_one, Nat.add_zero] at hx18_2); have hf18_2 := hfr18 2; (try simp only [show (k25).sz = 3 from rfl, Nat.mul_one, Nat.add_zero] at hf18_2); clear hcl18 hcc18 hfr18 hM18) | ((with_reducible refine gate_store (t := 25) (p := 14) rfl ?_); refine store_event (t := 25) (p := 14) (v := ?vo_w19) (w1 := (((w16.setCell ⟨go7, (a1 : Int).toNat * 3, none⟩ (.string a2_0)).setCell ⟨go7, (a1 : Int).toNat * 3 + 1, none⟩ (.int .u64 a2_1)).setCell ⟨go7, (a1 : Int).toNat * 3 + 2, none⟩ (.int .u64 a2_2))) ?hg ?ho ?hn ?hr ?_; (case ho => rfl); (case hg => rfl); (case hn => rfl); (case hr => first | (go_simp; done) | (go_simp; rfl)); intro w19 hw; have hg : w16.grownBy w19 (some go7) := (by rw [hw]; exact HP18.2); have hp_ : Kd.R k25 25 w19 w.heap.size (fun k_ => (w.heap.size ≤ k_) ∧ k_ ≠ gb315) (.slice (some ⟨go7, 0, none⟩) t316.length co7) y319 := (by rw [hw, Ny319.out]; exact HP18.1); clear HP18; have n0_ := Aside0.mk (blk_grown (bT BK315.out) hg (Kd.R_away HO318.out (fun _ hk => hk.2))); have n1_ := Aside0.mk (hp_); have n2_ := Aside0.mk ((by rw [hw]; exact below_set (below_set (below_set (HB.out) GB7.out) GB7.out) GB7.out : Below w.heap.size w w19)); clear BK315 HO318 HB; have BK315 := n0_; have HO318 := n1_; have HB := n2_; clear n0_ n1_ n2_ hg hw hp_) | ((with_reducible refine gate_callee (f := 18) rfl ?_); refine goesL_ (some 17) rfl rfl Try.func18 (by kernel_rfl) rfl #[.slice (some ⟨go7, 0, none⟩) y319.length co7, .int .i64 a1] rfl (by (try simp only [List.map_toArray, List.map_cons, List.map_nil]); first | done | (rw [show y319.length = t316.length from (Kd.R_reads' HO318.out).1.symm] <;> rfl) | rfl | (simp only [List.length_drop, List.length_take]; rfl)) ?_; (with_reducible refine (samphireref11_Lift.calls k (fun k_ => some k_ = (.slice (some ⟨go7, 0, none⟩) t316.length co7 : Value).ownBlock) _ _ y319 a1 t320 _ ?side1 A8.out).mono ?_); (case side1 => rw [show y319.length = t316.length from (Kd.R_reads' HO318.out).1.symm]; exact Kd.R_V (Kd.R_tight rfl (HO318.out))); rintro e w20 ⟨v321, rfl, ho0, hb⟩; refine ⟨_, rfl, ?_⟩; have n0_ := Aside0.mk (Kd.R_below (by (with_reducible repeat (first | apply Kd.R_alloc | apply Kd.R_drewN | apply Kd.R_drew)); exact HO318.out) hb); have n1_ := Aside0.mk (Kd.V_lower (Kd.V_mono (ok' := fun k_ => (w.heap.size ≤ k_) ∧ k_ ≠ gb315) ho0 (fun k_ hk_ => ⟨Or.elim hk_ (fun hs_ => ((HO318.out).1 k_ hs_.symm).1) (fun hn_ => (Nat.le_trans (below_size (bW HB.out)) hn_)), Or.elim hk_ (fun hs_ => ((HO318.out).1 k_ hs_.symm).2) (fun hn_ => (Kd.freshB (bT BK315.out) k_ hn_))⟩)) (below_size (bW HB.out))); have n2_ := Aside0.mk (blk_below (bT BK315.out) hb); have n3_ := Aside0.mk (below_step (bW HB.out) hb); clear HO318 BK315 HB; have HO318 := n0_; have HO322 := n1_; have BK315 := n2_; have HB := n3_; clear n0_ n1_ n2_ n3_; (try clear hb); (try clear hb2); (try clear hk); (try clear hi); (try clear ho0)))
       have n0_ := Aside0.mk (Kd.R_drew HO318.out)
       have n1_ := Aside0.mk (Kd.V_drew HO322.out)
       have n2_ := Aside0.mk (blk_drew BK315.out)
       have n3_ := Aside0.mk (below_drew1 HB.out)
       clear HO318 HO322 BK315 HB
       have HO318 := n0_
       have HO322 := n1_
       have BK315 := n2_
       have HB := n3_
       clear n0_ n1_ n2_ n3_
       have p323 : 0 ≤ ((ji10) : Int) := of_decide_eq_true (by first | (with_reducible assumption) | assumption)
       have q323 : (ji10) < (l0.length : Int) := of_decide_eq_true (by first | (with_reducible assumption) | assumption)
       obtain ⟨ad323, e323, hx323_0, hx323_1, hx323_2⟩ := at_T25 HR0.out (ji10) p323 q323
       have hw323_2 := hx323_2
       have hw323_1 := hx323_1
       have hw323_0 := hx323_0
       cases e323
       replace hx323_0 := (HB.out.cell (World.block_lt_of_cell? w _ hx323_0)).trans hx323_0
       replace hx323_1 := (HB.out.cell (World.block_lt_of_cell? w _ hx323_1)).trans hx323_1
       replace hx323_2 := (HB.out.cell (World.block_lt_of_cell? w _ hx323_2)).trans hx323_2
       replace p323 := eq_true p323
       replace q323 := eq_true q323
       refine start_ (n := 13) (S := fun w' => w'.cell? ⟨gb315, 0, none⟩ = some (.string a2_0) ∧ w'.cell? ⟨gb315, 1, none⟩ = some (.int .u64 a2_1) ∧ w'.cell? ⟨gb315, 2, none⟩ = some (.int .u64 a2_2) ∧ w'.cell? (ad323.add (((ji10)).toNat * 3)) = some (.string ((rd_T25 l0 (ji10)).f0)) ∧ w'.cell? ⟨(ad323.add (((ji10)).toNat * 3)).block, (ad323.add (((ji10)).toNat * 3)).off + 1, none⟩ = some (.int .u64 ((rd_T25 l0 (ji10)).f1)) ∧ w'.cell? ⟨(ad323.add (((ji10)).toNat * 3)).block, (ad323.add (((ji10)).toNat * 3)).off + 2, none⟩ = some (.int .u64 ((rd_T25 l0 (ji10)).f2))) (ds := []) #[false, false, false, false, false, false, false, false, false, false, false, false, false] (by kernel_rfl) rfl rfl ⟨(blk_cell BK315.out 0).trans rfl, (blk_cell BK315.out 1).trans rfl, (blk_cell BK315.out 2).trans rfl, ((HB.out.cell (World.block_lt_of_cell? w _ hw323_0)).trans hw323_0), ((HB.out.cell (World.block_lt_of_cell? w _ hw323_1)).trans hw323_1), ((HB.out.cell (World.block_lt_of_cell? w _ hw323_2)).trans hw323_2)⟩ (fun hHeld => ?_); refine with_tabW samphireref11_Put.tab4 samphireref11_Put.bits4 (fun HT_ HW_ => ?_)
       generalize w20.drew = w21 at HO318 HO322 BK315 HB hx323_0 hx323_1 hx323_2 hHeld ⊢
       refine pure_ (i := 0) (N := some 18) (v := ?_) (a' := ?_) #[true, false, false, false, false, false, false, false, false, false, false, false, false] rfl rfl (any_of HT_.out (by kernel_rfl)) (fun _ _ _ h => h) (Or.inl ⟨by rfl, ?_⟩) ?_ ?_
       rotate_left
       ·
        intro w'
        go_simp
        with_reducible rfl
       rotate_left
       · exact bA
       refine pure_ (i := 1) (N := some 19) (v := ?_) (a' := ?_) #[true, true, false, false, false, false, false, false, false, false, false, false, false] rfl rfl (any_of HT_.out (by kernel_rfl)) (fun _ _ _ h => h) (Or.inl ⟨by rfl, ?_⟩) ?_ ?_
       rotate_left
       ·
        intro w'
        go_simp
        with_reducible rfl
       rotate_left
       · exact bA
       refine pure_ (i := 2) (N := some 20) (v := ?_) (a' := ?_) #[true, true, true, false, false, false, false, false, false, false, false, false, false] rfl rfl (any_of HT_.out (by kernel_rfl)) (fun _ _ _ h => h) (Or.inl ⟨by rfl, ?_⟩) ?_ ?_
       rotate_left
       ·
        intro w'
        go_simp
        with_reducible rfl
       rotate_left
       · exact bA
       refine pure_ (i := 4) (N := some 22) (v := ?_) (a' := ?_) #[true, true, true, false, true, false, false, false, false, false, false, false, false] rfl rfl (any_of HT_.out (by kernel_rfl)) (fun _ _ _ h => h) (Or.inl ⟨by rfl, ?_⟩) ?_ ?_
       rotate_left
       ·
        intro w'
        go_simp
        with_reducible rfl
       rotate_left
       · exact bA
       refine pure_ (i := 5) (N := some 23) (v := ?_) (a' := ?_) #[true, true, true, false, true, true, false, false, false, false, false, false, false] rfl rfl (any_of HT_.out (by kernel_rfl)) (fun _ _ _ h => h) (Or.inl ⟨by rfl, ?_⟩) ?_ ?_
       rotate_left
       ·
        intro w'
        go_simp
        with_reducible rfl
       rotate_left
       · exact bA
       refine pure_ (i := 6) (N := some 24) (v := ?_) (a' := ?_) #[true, true, true, false, true, true, true, false, false, false, false, false, false] rfl rfl (any_of HT_.out (by kernel_rfl)) (fun _ _ _ h => h) (Or.inl ⟨by rfl, ?_⟩) ?_ ?_
       rotate_left
       ·
        intro w'
        go_simp
        with_reducible rfl
       rotate_left
       · exact bA
       refine pure_ (i := 7) (N := some 25) (v := ?_) (a' := ?_) #[true, true, true, false, true, true, true, true, false, false, false, false, false] rfl rfl (any_of HT_.out (by kernel_rfl)) (fun _ _ _ h => h) (Or.inl ⟨by rfl, ?_⟩) ?_ ?_
       rotate_left
       ·
        intro w'
        go_simp
        with_reducible rfl
       rotate_left
       · exact bA
       refine pure_ (i := 8) (N := some 26) (v := ?_) (a' := ?_) #[true, true, true, false, true, true, true, true, true, false, false, false, false] rfl rfl (any_of HT_.out (by kernel_rfl)) (fun _ _ _ h => h) (Or.inl ⟨by rfl, ?_⟩) ?_ ?_
       rotate_left
       ·
        intro w'
        go_simp
        with_reducible rfl
       rotate_left
       · exact bA
       refine take_ (i := 3) (N := some 21) (v := ?_) (a' := ?_) #[true, true, true, true, true, true, true, true, true, false, false, false, false] rfl rfl (take_ofW HT_.out HW_.out (by kernel_rfl)) (fun _ _ _ h => h) (Or.inl ⟨by rfl, ?_⟩) hHeld ?_ ?_
       rotate_left
       ·
        rintro w' ⟨s0, s1, s2, s3, s4, s5⟩
        go_simp
        with_reducible rfl
       rotate_left
       · exact bA
       refine take_ (i := 9) (N := some 27) (v := ?_) (a' := ?_) #[true, true, true, true, true, true, true, true, true, true, false, false, false] rfl rfl (take_ofW HT_.out HW_.out (by kernel_rfl)) (fun _ _ _ h => h) (Or.inl ⟨by rfl, ?_⟩) hHeld ?_ ?_
       rotate_left
       ·
        rintro w' ⟨s0, s1, s2, s3, s4, s5⟩
        go_simp
        with_reducible rfl
       rotate_left
       · exact bA
       refine one_ (i := 10) (N := some 28) #[true, true, true, true, true, true, true, true, true, true, true, false, false] rfl rfl (one_of HT_.out (by kernel_rfl)) (by decide) (fun K hK => ?_)
       refine goes_ Try.func32 (by kernel_rfl) rfl #[.agg #[.string a2_0, .int .u64 a2_1, .int .u64 a2_2], .agg #[.string ((rd_T25 l0 (ji10)).f0), .int .u64 ((rd_T25 l0 (ji10)).f1), .int .u64 ((rd_T25 l0 (ji10)).f2)]] (by rfl) rfl rfl (by (try simp only [List.map_toArray, List.map_cons, List.map_nil]); first | done | (simp only [hji10]; rfl) | rfl | (simp only [List.length_drop, List.length_take]; rfl)) ?_
       with_reducible refine (samphireref10_Cmp.calls a2_0 a2_1 a2_2 ((rd_T25 l0 (ji10)).f0) ((rd_T25 l0 (ji10)).f1) ((rd_T25 l0 (ji10)).f2) t324 _ A13.out).mono ?_
       rintro e w22 ⟨rfl, hb⟩
       refine ⟨_, rfl, ?_⟩
       have n0_ := Aside0.mk (Kd.R_below (by (with_reducible repeat (first | apply Kd.R_alloc | apply Kd.R_drewN | apply Kd.R_drew)); exact HO318.out) hb)
       have n1_ := Aside0.mk (Kd.V_below (by (with_reducible repeat (first | apply Kd.V_alloc | apply Kd.V_drewN | apply Kd.V_drew)); exact HO322.out) hb)
       have n2_ := Aside0.mk (blk_below (bT BK315.out) hb)
       have n3_ := Aside0.mk (below_step (bW HB.out) hb)
       clear HO318 HO322 BK315 HB
       have HO318 := n0_
       have HO322 := n1_
       have BK315 := n2_
       have HB := n3_
       clear n0_ n1_ n2_ n3_
       (try clear hb)
       (try clear hb2)
       (try clear hk)
       (try clear hi)
       refine hK.out _ _ ⟨(blk_cell BK315.out 0).trans rfl, (blk_cell BK315.out 1).trans rfl, (blk_cell BK315.out 2).trans rfl, ((HB.out.cell (World.block_lt_of_cell? w _ hw323_0)).trans hw323_0), ((HB.out.cell (World.block_lt_of_cell? w _ hw323_1)).trans hw323_1), ((HB.out.cell (World.block_lt_of_cell? w _ hw323_2)).trans hw323_2)⟩ (fun hHeld => ?_)
       clear hK K
       refine norm_ (a' := ?_) ?_ ?_
       rotate_left
       ·
        show Act.put _ (some 28) _ = _
        simp only [Act.put, List.setIfInBounds_toArray, List.set_cons_zero, List.set_cons_succ, i64_w, i32_w]
        rfl
       refine pure_ (i := 11) (N := some 29) (v := ?_) (a' := ?_) #[true, true, true, true, true, true, true, true, true, true, true, true, false] rfl rfl (any_of HT_.out (by kernel_rfl)) (fun _ _ _ h => h) (Or.inl ⟨by rfl, ?_⟩) ?_ ?_
       rotate_left
       ·
        intro w'
        go_simp
        with_reducible rfl
       rotate_left
       · exact bA
       refine pure_ (i := 12) (N := some 30) (v := ?_) (a' := ?_) #[true, true, true, true, true, true, true, true, true, true, true, true, true] rfl rfl (any_of HT_.out (by kernel_rfl)) (fun _ _ _ h => h) (Or.inl ⟨by rfl, ?_⟩) ?_ ?_
       rotate_left
       ·
        intro w'
        go_simp
        with_reducible rfl
       rotate_left
       · exact bA
       refine done_ (done_of HT_.out (by kernel_rfl)) ?_
       try go_wp2
       go_ret
       exact ⟨_, by first | rfl | (simp [errW_none, errW_some] <;> rfl) | (simp only [← hji10]; first | rfl | (simp [errW_none, errW_some] <;> rfl)) | (simp [*, errW_none, errW_some] <;> rfl), by (with_reducible repeat (first | apply Kd.V_alloc | apply Kd.V_drewN | apply Kd.V_drew)); exact Kd.V_mono HO322.out (fun _ hk => hk.1), by repeat (first | (with_reducible first | exact HB.out | apply below_alloc | apply pw_below_drewN | apply below_drew1 | refine below_set ?_ GE315.out) | exact HB.out)⟩
      ·
       rw [if_neg c14] at H
       have c14b0 : decide (0 < t324) = false := decide_eq_false c14
       clear c14
       replace H := Option.bind_eq_some_iff.mp H
       obtain ⟨t325, A230, H⟩ := H
       replace H : (some t325) = some r := H
       have A23 := Aside0.mk A230
       clear A230
       obtain rfl := Option.some.inj H
       go_enter Try.func20, Try.ntmps20
       try go_wp2_with (first | ((with_reducible refine gate_dst (N := 5) rfl ?_); refine box_event ?hg (N := 5) ?hd (cs := #[.string a2_0, .int .u64 a2_1, .int .u64 a2_2]) (t := 25) ?hr ?_; (case hd => rfl); (case hg => rfl); (case hr => first | (go_simp; done) | (go_simp; rfl)); intro gb315 hg w24 hbox hb; have n0_ := Aside0.mk (below_step (bW HB.out) hb); have n1_ := Aside0.mk (hbox); have n2_ := Aside0.mk ((by rw [hg]; exact (below_size (bW HB.out)) : w.heap.size ≤ gb315)); have n3_ := Aside0.mk ((by rw [hg]; exact (below_size (bW HB.out)) : w.heap.size ≤ gb315)); clear HB; have HB := n0_; have BK315 := n1_; have GW315 := n2_; have GE315 := n3_; clear n0_ n1_ n2_ n3_ hb hbox hg) | ((with_reducible refine gate_callee (f := 35) rfl ?_); refine goesL_ (some 10) rfl rfl Try.func35 (by kernel_rfl) rfl #[.slice A0 l0.length c0] rfl (by (try simp only [List.map_toArray, List.map_cons, List.map_nil]); first | done | rfl | (simp only [List.length_drop, List.length_take]; rfl)) ?_; (with_reducible refine (samphireref11_copied.calls _ _ l0 t316 _ ?side1 ?side2 A4.out).mono ?_); (case side1 => repeat (first | exact (Kd.C_below HR0.out HB.out) | (with_reducible refine Kd.C_alloc ?_ _) | (with_reducible refine Kd.C_drewN ?_ _) | (with_reducible refine Kd.C_drew ?_))); (case side2 => exact HC0.out); rintro e w25 ⟨v317, rfl, ho0, hb⟩; refine ⟨_, rfl, ?_⟩; have n0_ := Aside0.mk (Kd.R_lower (Kd.R_newB (Kd.R_newM (M := fun k_ => (w.heap.size ≤ k_)) ho0 (below_size (bW HB.out)) (fun k_ h_ => h_)) (bT BK315.out)) (below_size (bW HB.out))); have n1_ := Aside0.mk (blk_below (bT BK315.out) hb); have n2_ := Aside0.mk (below_step (bW HB.out) hb); clear BK315 HB; have HO318 := n0_; have BK315 := n1_; have HB := n2_; clear n0_ n1_ n2_; (try clear hb); (try clear hb2); (try clear hk); (try clear hi); (try clear ho0); have hcz26_0 : w25.cell? ⟨gb315, 0, none⟩ = some (.string a2_0) := (blk_cell BK315.out 0).trans rfl; have hcz26_1 : w25.cell? ⟨gb315, 1, none⟩ = some (.int .u64 a2_1) := (blk_cell BK315.out 1).trans rfl; have hcz26_2 : w25.cell? ⟨gb315, 2, none⟩ = some (.int .u64 a2_2) := (blk_cell BK315.out 2).trans rfl; have hfz26_0 := blk_frozen BK315.out 0; have hfz26_1 := blk_frozen BK315.out 1; have hfz26_2 := blk_frozen BK315.out 2; have p7 : 0 ≤ (a1 : Int) := of_decide_eq_true (by first | (with_reducible assumption) | assumption); have q7 : (a1 : Int) < ((t316.length : Int) : Int) := of_decide_eq_true (by first | (with_reducible assumption) | assumption); obtain ⟨go7, co7, eo7, gb7, gl7, cl7, HG7⟩ := Kd.R_form HO318.out (by omega); (first | cases eo7 | (injection eo7 with ea_ en_ ec_; (first | subst ea_ | (injection ea_ with ea_; subst ea_)); subst ec_; clear en_)); have GB7 := Aside0.mk gb7; have GG7 := Aside0.mk HG7; clear gb7 gl7 HG7; obtain ⟨ce7, hcl7, hM7, hcc7, hfr7⟩ := Kd.R_elem HO318.out z25 (a1 : Int) p7 q7; obtain rfl := k25_openM hM7; have hx7_0 : w25.cell? ⟨go7, (a1 : Int).toNat * 3, none⟩ = some (.string ((rd_T25 t316 a1).f0)) := hcc7 0 _ rfl; have hx7_1 : w25.cell? ⟨go7, (a1 : Int).toNat * 3 + 1, none⟩ = some (.int .u64 ((rd_T25 t316 a1).f1)) := hcc7 1 _ rfl; have hx7_2 : w25.cell? ⟨go7, (a1 : Int).toNat * 3 + 2, none⟩ = some (.int .u64 ((rd_T25 t316 a1).f2)) := hcc7 2 _ rfl; have hf7_0 : w25.frozen? ⟨go7, (a1 : Int).toNat * 3, none⟩ = false := hfr7 0; have hf7_1 : w25.frozen? ⟨go7, (a1 : Int).toNat * 3 + 1, none⟩ = false := hfr7 1; have hf7_2 : w25.frozen? ⟨go7, (a1 : Int).toNat * 3 + 2, none⟩ = false := hfr7 2; clear hcl7 hcc7 hfr7 hM7; replace p7 := eq_true p7; replace q7 := eq_true q7; have n_ := Aside0.mk (Kd.R_mono (ok' := (fun k_ => (w.heap.size ≤ k_) ∧ k_ ≠ gb315)) HO318.out (fun k_ hk => ⟨hk.1.1, hk.2⟩)); clear HO318; have HO318 := n_; clear n_; have HX27 := Aside0.mk (show Kd.R k25 25 w25 w.heap.size (fun k_ => (w.heap.size ≤ k_) ∧ k_ ≠ gb315) (.slice (some ⟨go7, 0, none⟩) t316.length co7) t316 from (by (with_reducible repeat (first | apply Kd.R_alloc | apply Kd.R_drewN | apply Kd.R_drew)); exact HO318.out)); obtain ⟨ce27, hcl27, hM27, hcc27, hfr27⟩ := Kd.R_elem HX27.out z25 (a1 : Int) (of_decide_eq_true (by first | (with_reducible assumption) | assumption)) (by have h_ : (a1 : Int) < ((t316.length : Int) : Int) := of_decide_eq_true (by first | (with_reducible assumption) | assumption); first | exact h_ | (have e_ := (Kd.R_reads' HO318.out).1; omega) | simpa using h_); obtain rfl := k25_openM hM27; have HP27 := Kd.R_seg HX27.out (a1 : Int) (of_decide_eq_true (by first | (with_reducible assumption) | assumption)) (by have h_ : (a1 : Int) < ((t316.length : Int) : Int) := of_decide_eq_true (by first | (with_reducible assumption) | assumption); first | exact h_ | (have e_ := (Kd.R_reads' HO318.out).1; omega) | simpa using h_) (seg := [.string a2_0, .int .u64 a2_1, .int .u64 a2_2]) (j := 0) hcl27 hcc27 (show 3 ≤ 3 from by decide) (x' := (⟨a2_0, a2_1, a2_2⟩ : S25)) (k25_mkM _ _ _ (⟨a2_0, a2_1, a2_2⟩ : S25) ) (fun _ hk => hk); have hx27_0 := hcc27 0 _ rfl; (try simp only [show (k25).sz = 3 from rfl, Nat.mul_one, Nat.add_zero] at hx27_0); have hf27_0 := hfr27 0; (try simp only [show (k25).sz = 3 from rfl, Nat.mul_one, Nat.add_zero] at hf27_0); have hx27_1 := hcc27 1 _ rfl; (try simp only [show (k25).sz = 3 from rfl, Nat.mul_one, Nat.add_zero] at hx27_1); have hf27_1 := hfr27 1; (try simp only [show (k25).sz = 3 from rfl, Nat.mul_one, Nat.add_zero] at hf27_1); have hx27_2 := hcc27 2 _ rfl; (try simp only [show (k25).sz = 3 from rfl, Nat.mul_one, Nat.add_zero] at hx27_2); have hf27_2 := hfr27 2; (try simp only [show (k25).sz = 3 from rfl, Nat.mul_one, Nat.add_zero] at hf27_2); clear hcl27 hcc27 hfr27 hM27) | ((with_reducible refine gate_store (t := 25) (p := 14) rfl ?_); refine store_event (t := 25) (p := 14) (v := ?vo_w28) (w1 := (((w25.setCell ⟨go7, (a1 : Int).toNat * 3, none⟩ (.string a2_0)).setCell ⟨go7, (a1 : Int).toNat * 3 + 1, none⟩ (.int .u64 a2_1)).setCell ⟨go7, (a1 : Int).toNat * 3 + 2, none⟩ (.int .u64 a2_2))) ?hg ?ho ?hn ?hr ?_; (case ho => rfl); (case hg => rfl); (case hn => rfl); (case hr => first | (go_simp; done) | (go_simp; rfl)); intro w28 hw; have hg : w25.grownBy w28 (some go7) := (by rw [hw]; exact HP27.2); have hp_ : Kd.R k25 25 w28 w.heap.size (fun k_ => (w.heap.size ≤ k_) ∧ k_ ≠ gb315) (.slice (some ⟨go7, 0, none⟩) t316.length co7) y319 := (by rw [hw, Ny319.out]; exact HP27.1); clear HP27; have n0_ := Aside0.mk (blk_grown (bT BK315.out) hg (Kd.R_away HO318.out (fun _ hk => hk.2))); have n1_ := Aside0.mk (hp_); have n2_ := Aside0.mk ((by rw [hw]; exact below_set (below_set (below_set (HB.out) GB7.out) GB7.out) GB7.out : Below w.heap.size w w28)); clear BK315 HO318 HB; have BK315 := n0_; have HO318 := n1_; have HB := n2_; clear n0_ n1_ n2_ hg hw hp_) | ((with_reducible refine gate_callee (f := 18) rfl ?_); refine goesL_ (some 17) rfl rfl Try.func18 (by kernel_rfl) rfl #[.slice (some ⟨go7, 0, none⟩) y319.length co7, .int .i64 a1] rfl (by (try simp only [List.map_toArray, List.map_cons, List.map_nil]); first | done | (rw [show y319.length = t316.length from (Kd.R_reads' HO318.out).1.symm] <;> rfl) | rfl | (simp only [List.length_drop, List.length_take]; rfl)) ?_; (with_reducible refine (samphireref11_Lift.calls k (fun k_ => some k_ = (.slice (some ⟨go7, 0, none⟩) t316.length co7 : Value).ownBlock) _ _ y319 a1 t320 _ ?side1 A8.out).mono ?_); (case side1 => rw [show y319.length = t316.length from (Kd.R_reads' HO318.out).1.symm]; exact Kd.R_V (Kd.R_tight rfl (HO318.out))); rintro e w29 ⟨v321, rfl, ho0, hb⟩; refine ⟨_, rfl, ?_⟩; have n0_ := Aside0.mk (Kd.R_below (by (with_reducible repeat (first | apply Kd.R_alloc | apply Kd.R_drewN | apply Kd.R_drew)); exact HO318.out) hb); have n1_ := Aside0.mk (Kd.V_lower (Kd.V_mono (ok' := fun k_ => (w.heap.size ≤ k_) ∧ k_ ≠ gb315) ho0 (fun k_ hk_ => ⟨Or.elim hk_ (fun hs_ => ((HO318.out).1 k_ hs_.symm).1) (fun hn_ => (Nat.le_trans (below_size (bW HB.out)) hn_)), Or.elim hk_ (fun hs_ => ((HO318.out).1 k_ hs_.symm).2) (fun hn_ => (Kd.freshB (bT BK315.out) k_ hn_))⟩)) (below_size (bW HB.out))); have n2_ := Aside0.mk (blk_below (bT BK315.out) hb); have n3_ := Aside0.mk (below_step (bW HB.out) hb); clear HO318 BK315 HB; have HO318 := n0_; have HO322 := n1_; have BK315 := n2_; have HB := n3_; clear n0_ n1_ n2_ n3_; (try clear hb); (try clear hb2); (try clear hk); (try clear hi); (try clear ho0)))
       have n0_ := Aside0.mk (Kd.R_drew HO318.out)
       have n1_ := Aside0.mk (Kd.V_drew HO322.out)
       have n2_ := Aside0.mk (blk_drew BK315.out)
       have n3_ := Aside0.mk (below_drew1 HB.out)
       clear HO318 HO322 BK315 HB
       have HO318 := n0_
       have HO322 := n1_
       have BK315 := n2_
       have HB := n3_
       clear n0_ n1_ n2_ n3_
       have p323 : 0 ≤ ((ji10) : Int) := of_decide_eq_true (by first | (with_reducible assumption) | assumption)
       have q323 : (ji10) < (l0.length : Int) := of_decide_eq_true (by first | (with_reducible assumption) | assumption)
       obtain ⟨ad323, e323, hx323_0, hx323_1, hx323_2⟩ := at_T25 HR0.out (ji10) p323 q323
       have hw323_2 := hx323_2
       have hw323_1 := hx323_1
       have hw323_0 := hx323_0
       cases e323
       replace hx323_0 := (HB.out.cell (World.block_lt_of_cell? w _ hx323_0)).trans hx323_0
       replace hx323_1 := (HB.out.cell (World.block_lt_of_cell? w _ hx323_1)).trans hx323_1
       replace hx323_2 := (HB.out.cell (World.block_lt_of_cell? w _ hx323_2)).trans hx323_2
       replace p323 := eq_true p323
       replace q323 := eq_true q323
       refine start_ (n := 13) (S := fun w' => w'.cell? ⟨gb315, 0, none⟩ = some (.string a2_0) ∧ w'.cell? ⟨gb315, 1, none⟩ = some (.int .u64 a2_1) ∧ w'.cell? ⟨gb315, 2, none⟩ = some (.int .u64 a2_2) ∧ w'.cell? (ad323.add (((ji10)).toNat * 3)) = some (.string ((rd_T25 l0 (ji10)).f0)) ∧ w'.cell? ⟨(ad323.add (((ji10)).toNat * 3)).block, (ad323.add (((ji10)).toNat * 3)).off + 1, none⟩ = some (.int .u64 ((rd_T25 l0 (ji10)).f1)) ∧ w'.cell? ⟨(ad323.add (((ji10)).toNat * 3)).block, (ad323.add (((ji10)).toNat * 3)).off + 2, none⟩ = some (.int .u64 ((rd_T25 l0 (ji10)).f2))) (ds := []) #[false, false, false, false, false, false, false, false, false, false, false, false, false] (by kernel_rfl) rfl rfl ⟨(blk_cell BK315.out 0).trans rfl, (blk_cell BK315.out 1).trans rfl, (blk_cell BK315.out 2).trans rfl, ((HB.out.cell (World.block_lt_of_cell? w _ hw323_0)).trans hw323_0), ((HB.out.cell (World.block_lt_of_cell? w _ hw323_1)).trans hw323_1), ((HB.out.cell (World.block_lt_of_cell? w _ hw323_2)).trans hw323_2)⟩ (fun hHeld => ?_); refine with_tabW samphireref11_Put.tab4 samphireref11_Put.bits4 (fun HT_ HW_ => ?_)
       generalize w29.drew = w30 at HO318 HO322 BK315 HB hx323_0 hx323_1 hx323_2 hHeld ⊢
       refine pure_ (i := 0) (N := some 18) (v := ?_) (a' := ?_) #[true, false, false, false, false, false, false, false, false, false, false, false, false] rfl rfl (any_of HT_.out (by kernel_rfl)) (fun _ _ _ h => h) (Or.inl ⟨by rfl, ?_⟩) ?_ ?_
       rotate_left
       ·
        intro w'
        go_simp
        with_reducible rfl
       rotate_left
       · exact bA
       refine pure_ (i := 1) (N := some 19) (v := ?_) (a' := ?_) #[true, true, false, false, false, false, false, false, false, false, false, false, false] rfl rfl (any_of HT_.out (by kernel_rfl)) (fun _ _ _ h => h) (Or.inl ⟨by rfl, ?_⟩) ?_ ?_
       rotate_left
       ·
        intro w'
        go_simp
        with_reducible rfl
       rotate_left
       · exact bA
       refine pure_ (i := 2) (N := some 20) (v := ?_) (a' := ?_) #[true, true, true, false, false, false, false, false, false, false, false, false, false] rfl rfl (any_of HT_.out (by kernel_rfl)) (fun _ _ _ h => h) (Or.inl ⟨by rfl, ?_⟩) ?_ ?_
       rotate_left
       ·
        intro w'
        go_simp
        with_reducible rfl
       rotate_left
       · exact bA
       refine pure_ (i := 4) (N := some 22) (v := ?_) (a' := ?_) #[true, true, true, false, true, false, false, false, false, false, false, false, false] rfl rfl (any_of HT_.out (by kernel_rfl)) (fun _ _ _ h => h) (Or.inl ⟨by rfl, ?_⟩) ?_ ?_
       rotate_left
       ·
        intro w'
        go_simp
        with_reducible rfl
       rotate_left
       · exact bA
       refine pure_ (i := 5) (N := some 23) (v := ?_) (a' := ?_) #[true, true, true, false, true, true, false, false, false, false, false, false, false] rfl rfl (any_of HT_.out (by kernel_rfl)) (fun _ _ _ h => h) (Or.inl ⟨by rfl, ?_⟩) ?_ ?_
       rotate_left
       ·
        intro w'
        go_simp
        with_reducible rfl
       rotate_left
       · exact bA
       refine pure_ (i := 6) (N := some 24) (v := ?_) (a' := ?_) #[true, true, true, false, true, true, true, false, false, false, false, false, false] rfl rfl (any_of HT_.out (by kernel_rfl)) (fun _ _ _ h => h) (Or.inl ⟨by rfl, ?_⟩) ?_ ?_
       rotate_left
       ·
        intro w'
        go_simp
        with_reducible rfl
       rotate_left
       · exact bA
       refine pure_ (i := 7) (N := some 25) (v := ?_) (a' := ?_) #[true, true, true, false, true, true, true, true, false, false, false, false, false] rfl rfl (any_of HT_.out (by kernel_rfl)) (fun _ _ _ h => h) (Or.inl ⟨by rfl, ?_⟩) ?_ ?_
       rotate_left
       ·
        intro w'
        go_simp
        with_reducible rfl
       rotate_left
       · exact bA
       refine pure_ (i := 8) (N := some 26) (v := ?_) (a' := ?_) #[true, true, true, false, true, true, true, true, true, false, false, false, false] rfl rfl (any_of HT_.out (by kernel_rfl)) (fun _ _ _ h => h) (Or.inl ⟨by rfl, ?_⟩) ?_ ?_
       rotate_left
       ·
        intro w'
        go_simp
        with_reducible rfl
       rotate_left
       · exact bA
       refine take_ (i := 3) (N := some 21) (v := ?_) (a' := ?_) #[true, true, true, true, true, true, true, true, true, false, false, false, false] rfl rfl (take_ofW HT_.out HW_.out (by kernel_rfl)) (fun _ _ _ h => h) (Or.inl ⟨by rfl, ?_⟩) hHeld ?_ ?_
       rotate_left
       ·
        rintro w' ⟨s0, s1, s2, s3, s4, s5⟩
        go_simp
        with_reducible rfl
       rotate_left
       · exact bA
       refine take_ (i := 9) (N := some 27) (v := ?_) (a' := ?_) #[true, true, true, true, true, true, true, true, true, true, false, false, false] rfl rfl (take_ofW HT_.out HW_.out (by kernel_rfl)) (fun _ _ _ h => h) (Or.inl ⟨by rfl, ?_⟩) hHeld ?_ ?_
       rotate_left
       ·
        rintro w' ⟨s0, s1, s2, s3, s4, s5⟩
        go_simp
        with_reducible rfl
       rotate_left
       · exact bA
       refine one_ (i := 10) (N := some 28) #[true, true, true, true, true, true, true, true, true, true, true, false, false] rfl rfl (one_of HT_.out (by kernel_rfl)) (by decide) (fun K hK => ?_)
       refine goes_ Try.func32 (by kernel_rfl) rfl #[.agg #[.string a2_0, .int .u64 a2_1, .int .u64 a2_2], .agg #[.string ((rd_T25 l0 (ji10)).f0), .int .u64 ((rd_T25 l0 (ji10)).f1), .int .u64 ((rd_T25 l0 (ji10)).f2)]] (by rfl) rfl rfl (by (try simp only [List.map_toArray, List.map_cons, List.map_nil]); first | done | (simp only [hji10]; rfl) | rfl | (simp only [List.length_drop, List.length_take]; rfl)) ?_
       with_reducible refine (samphireref10_Cmp.calls a2_0 a2_1 a2_2 ((rd_T25 l0 (ji10)).f0) ((rd_T25 l0 (ji10)).f1) ((rd_T25 l0 (ji10)).f2) t324 _ A13.out).mono ?_
       rintro e w31 ⟨rfl, hb⟩
       refine ⟨_, rfl, ?_⟩
       have n0_ := Aside0.mk (Kd.R_below (by (with_reducible repeat (first | apply Kd.R_alloc | apply Kd.R_drewN | apply Kd.R_drew)); exact HO318.out) hb)
       have n1_ := Aside0.mk (Kd.V_below (by (with_reducible repeat (first | apply Kd.V_alloc | apply Kd.V_drewN | apply Kd.V_drew)); exact HO322.out) hb)
       have n2_ := Aside0.mk (blk_below (bT BK315.out) hb)
       have n3_ := Aside0.mk (below_step (bW HB.out) hb)
       clear HO318 HO322 BK315 HB
       have HO318 := n0_
       have HO322 := n1_
       have BK315 := n2_
       have HB := n3_
       clear n0_ n1_ n2_ n3_
       (try clear hb)
       (try clear hb2)
       (try clear hk)
       (try clear hi)
       refine hK.out _ _ ⟨(blk_cell BK315.out 0).trans rfl, (blk_cell BK315.out 1).trans rfl, (blk_cell BK315.out 2).trans rfl, ((HB.out.cell (World.block_lt_of_cell? w _ hw323_0)).trans hw323_0), ((HB.out.cell (World.block_lt_of_cell? w _ hw323_1)).trans hw323_1), ((HB.out.cell (World.block_lt_of_cell? w _ hw323_2)).trans hw323_2)⟩ (fun hHeld => ?_)
       clear hK K
       refine norm_ (a' := ?_) ?_ ?_
       rotate_left
       ·
        show Act.put _ (some 28) _ = _
        simp only [Act.put, List.setIfInBounds_toArray, List.set_cons_zero, List.set_cons_succ, i64_w, i32_w]
        rfl
       refine pure_ (i := 11) (N := some 29) (v := ?_) (a' := ?_) #[true, true, true, true, true, true, true, true, true, true, true, true, false] rfl rfl (any_of HT_.out (by kernel_rfl)) (fun _ _ _ h => h) (Or.inl ⟨by rfl, ?_⟩) ?_ ?_
       rotate_left
       ·
        intro w'
        go_simp
        with_reducible rfl
       rotate_left
       · exact bA
       refine pure_ (i := 12) (N := some 30) (v := ?_) (a' := ?_) #[true, true, true, true, true, true, true, true, true, true, true, true, true] rfl rfl (any_of HT_.out (by kernel_rfl)) (fun _ _ _ h => h) (Or.inl ⟨by rfl, ?_⟩) ?_ ?_
       rotate_left
       ·
        intro w'
        go_simp
        with_reducible rfl
       rotate_left
       · exact bA
       refine done_ (done_of HT_.out (by kernel_rfl)) ?_
       try go_wp2_with (first | ((with_reducible refine gate_callee (f := 36) rfl ?_); refine goesL_ (some 34) rfl rfl Try.func36 (by kernel_rfl) rfl #[.slice (some ⟨go7, 0, none⟩) y319.length co7, .int .i64 a1] rfl (by (try simp only [List.map_toArray, List.map_cons, List.map_nil]); first | done | (rw [show y319.length = t316.length from (Kd.R_reads' HO318.out).1.symm] <;> rfl) | rfl | (simp only [List.length_drop, List.length_take]; rfl)) ?_; (with_reducible refine (samphireref11_Sink.calls k (fun k_ => some k_ = (.slice (some ⟨go7, 0, none⟩) t316.length co7 : Value).ownBlock) _ _ y319 a1 t325 _ ?side1 A23.out).mono ?_); (case side1 => rw [show y319.length = t316.length from (Kd.R_reads' HO318.out).1.symm]; exact Kd.R_V (Kd.R_tight rfl (HO318.out))); rintro e w32 ⟨v326, rfl, ho0, hb⟩; refine ⟨_, rfl, ?_⟩; have n0_ := Aside0.mk (Kd.R_below (by (with_reducible repeat (first | apply Kd.R_alloc | apply Kd.R_drewN | apply Kd.R_drew)); exact HO318.out) hb); have n1_ := Aside0.mk (Kd.V_below (by (with_reducible repeat (first | apply Kd.V_alloc | apply Kd.V_drewN | apply Kd.V_drew)); exact HO322.out) hb); have n2_ := Aside0.mk (Kd.V_lower (Kd.V_mono (ok' := fun k_ => (w.heap.size ≤ k_) ∧ k_ ≠ gb315) ho0 (fun k_ hk_ => ⟨Or.elim hk_ (fun hs_ => ((HO318.out).1 k_ hs_.symm).1) (fun hn_ => (Nat.le_trans (below_size (bW HB.out)) hn_)), Or.elim hk_ (fun hs_ => ((HO318.out).1 k_ hs_.symm).2) (fun hn_ => (Kd.freshB (bT BK315.out) k_ hn_))⟩)) (below_size (bW HB.out))); have n3_ := Aside0.mk (blk_below (bT BK315.out) hb); have n4_ := Aside0.mk (below_step (bW HB.out) hb); clear HO318 HO322 BK315 HB; have HO318 := n0_; have HO322 := n1_; have HO327 := n2_; have BK315 := n3_; have HB := n4_; clear n0_ n1_ n2_ n3_ n4_; (try clear hb); (try clear hb2); (try clear hk); (try clear hi); (try clear ho0)))
       go_ret
       exact ⟨_, by first | rfl | (simp [errW_none, errW_some] <;> rfl) | (simp only [← hji10]; first | rfl | (simp [errW_none, errW_some] <;> rfl)) | (simp [*, errW_none, errW_some] <;> rfl), by (with_reducible repeat (first | apply Kd.V_alloc | apply Kd.V_drewN | apply Kd.V_drew)); exact Kd.V_mono HO327.out (fun _ hk => hk.1), by repeat (first | (with_reducible first | exact HB.out | apply below_alloc | apply pw_below_drewN | apply below_drew1 | refine below_set ?_ GE315.out) | exact HB.out)⟩
     ·
      rw [if_neg c12] at H
      exact absurd H (by simp)
    ·
     rw [if_neg c11] at H
     exact absurd H (by simp)
   ·
    rw [if_neg c9] at H
    have c9b0 : decide (0 < a1) = false := decide_eq_false c9
    clear c9
    replace H := Option.bind_eq_some_iff.mp H
    obtain ⟨t328, A330, H⟩ := H
    replace H : (some t328) = some r := H
    have A33 := Aside0.mk A330
    clear A330
    obtain rfl := Option.some.inj H
    go_enter Try.func20, Try.ntmps20
    try go_wp2_with (first | ((with_reducible refine gate_dst (N := 5) rfl ?_); refine box_event ?hg (N := 5) ?hd (cs := #[.string a2_0, .int .u64 a2_1, .int .u64 a2_2]) (t := 25) ?hr ?_; (case hd => rfl); (case hg => rfl); (case hr => first | (go_simp; done) | (go_simp; rfl)); intro gb315 hg w34 hbox hb; have n0_ := Aside0.mk (below_step (bW HB.out) hb); have n1_ := Aside0.mk (hbox); have n2_ := Aside0.mk ((by rw [hg]; exact (below_size (bW HB.out)) : w.heap.size ≤ gb315)); have n3_ := Aside0.mk ((by rw [hg]; exact (below_size (bW HB.out)) : w.heap.size ≤ gb315)); clear HB; have HB := n0_; have BK315 := n1_; have GW315 := n2_; have GE315 := n3_; clear n0_ n1_ n2_ n3_ hb hbox hg) | ((with_reducible refine gate_callee (f := 35) rfl ?_); refine goesL_ (some 10) rfl rfl Try.func35 (by kernel_rfl) rfl #[.slice A0 l0.length c0] rfl (by (try simp only [List.map_toArray, List.map_cons, List.map_nil]); first | done | rfl | (simp only [List.length_drop, List.length_take]; rfl)) ?_; (with_reducible refine (samphireref11_copied.calls _ _ l0 t316 _ ?side1 ?side2 A4.out).mono ?_); (case side1 => repeat (first | exact (Kd.C_below HR0.out HB.out) | (with_reducible refine Kd.C_alloc ?_ _) | (with_reducible refine Kd.C_drewN ?_ _) | (with_reducible refine Kd.C_drew ?_))); (case side2 => exact HC0.out); rintro e w35 ⟨v317, rfl, ho0, hb⟩; refine ⟨_, rfl, ?_⟩; have n0_ := Aside0.mk (Kd.R_lower (Kd.R_newB (Kd.R_newM (M := fun k_ => (w.heap.size ≤ k_)) ho0 (below_size (bW HB.out)) (fun k_ h_ => h_)) (bT BK315.out)) (below_size (bW HB.out))); have n1_ := Aside0.mk (blk_below (bT BK315.out) hb); have n2_ := Aside0.mk (below_step (bW HB.out) hb); clear BK315 HB; have HO318 := n0_; have BK315 := n1_; have HB := n2_; clear n0_ n1_ n2_; (try clear hb); (try clear hb2); (try clear hk); (try clear hi); (try clear ho0); have hcz36_0 : w35.cell? ⟨gb315, 0, none⟩ = some (.string a2_0) := (blk_cell BK315.out 0).trans rfl; have hcz36_1 : w35.cell? ⟨gb315, 1, none⟩ = some (.int .u64 a2_1) := (blk_cell BK315.out 1).trans rfl; have hcz36_2 : w35.cell? ⟨gb315, 2, none⟩ = some (.int .u64 a2_2) := (blk_cell BK315.out 2).trans rfl; have hfz36_0 := blk_frozen BK315.out 0; have hfz36_1 := blk_frozen BK315.out 1; have hfz36_2 := blk_frozen BK315.out 2; have p7 : 0 ≤ (a1 : Int) := of_decide_eq_true (by first | (with_reducible assumption) | assumption); have q7 : (a1 : Int) < ((t316.length : Int) : Int) := of_decide_eq_true (by first | (with_reducible assumption) | assumption); obtain ⟨go7, co7, eo7, gb7, gl7, cl7, HG7⟩ := Kd.R_form HO318.out (by omega); (first | cases eo7 | (injection eo7 with ea_ en_ ec_; (first | subst ea_ | (injection ea_ with ea_; subst ea_)); subst ec_; clear en_)); have GB7 := Aside0.mk gb7; have GG7 := Aside0.mk HG7; clear gb7 gl7 HG7; obtain ⟨ce7, hcl7, hM7, hcc7, hfr7⟩ := Kd.R_elem HO318.out z25 (a1 : Int) p7 q7; obtain rfl := k25_openM hM7; have hx7_0 : w35.cell? ⟨go7, (a1 : Int).toNat * 3, none⟩ = some (.string ((rd_T25 t316 a1).f0)) := hcc7 0 _ rfl; have hx7_1 : w35.cell? ⟨go7, (a1 : Int).toNat * 3 + 1, none⟩ = some (.int .u64 ((rd_T25 t316 a1).f1)) := hcc7 1 _ rfl; have hx7_2 : w35.cell? ⟨go7, (a1 : Int).toNat * 3 + 2, none⟩ = some (.int .u64 ((rd_T25 t316 a1).f2)) := hcc7 2 _ rfl; have hf7_0 : w35.frozen? ⟨go7, (a1 : Int).toNat * 3, none⟩ = false := hfr7 0; have hf7_1 : w35.frozen? ⟨go7, (a1 : Int).toNat * 3 + 1, none⟩ = false := hfr7 1; have hf7_2 : w35.frozen? ⟨go7, (a1 : Int).toNat * 3 + 2, none⟩ = false := hfr7 2; clear hcl7 hcc7 hfr7 hM7; replace p7 := eq_true p7; replace q7 := eq_true q7; have n_ := Aside0.mk (Kd.R_mono (ok' := (fun k_ => (w.heap.size ≤ k_) ∧ k_ ≠ gb315)) HO318.out (fun k_ hk => ⟨hk.1.1, hk.2⟩)); clear HO318; have HO318 := n_; clear n_; have HX37 := Aside0.mk (show Kd.R k25 25 w35 w.heap.size (fun k_ => (w.heap.size ≤ k_) ∧ k_ ≠ gb315) (.slice (some ⟨go7, 0, none⟩) t316.length co7) t316 from (by (with_reducible repeat (first | apply Kd.R_alloc | apply Kd.R_drewN | apply Kd.R_drew)); exact HO318.out)); obtain ⟨ce37, hcl37, hM37, hcc37, hfr37⟩ := Kd.R_elem HX37.out z25 (a1 : Int) (of_decide_eq_true (by first | (with_reducible assumption) | assumption)) (by have h_ : (a1 : Int) < ((t316.length : Int) : Int) := of_decide_eq_true (by first | (with_reducible assumption) | assumption); first | exact h_ | (have e_ := (Kd.R_reads' HO318.out).1; omega) | simpa using h_); obtain rfl := k25_openM hM37; have HP37 := Kd.R_seg HX37.out (a1 : Int) (of_decide_eq_true (by first | (with_reducible assumption) | assumption)) (by have h_ : (a1 : Int) < ((t316.length : Int) : Int) := of_decide_eq_true (by first | (with_reducible assumption) | assumption); first | exact h_ | (have e_ := (Kd.R_reads' HO318.out).1; omega) | simpa using h_) (seg := [.string a2_0, .int .u64 a2_1, .int .u64 a2_2]) (j := 0) hcl37 hcc37 (show 3 ≤ 3 from by decide) (x' := (⟨a2_0, a2_1, a2_2⟩ : S25)) (k25_mkM _ _ _ (⟨a2_0, a2_1, a2_2⟩ : S25) ) (fun _ hk => hk); have hx37_0 := hcc37 0 _ rfl; (try simp only [show (k25).sz = 3 from rfl, Nat.mul_one, Nat.add_zero] at hx37_0); have hf37_0 := hfr37 0; (try simp only [show (k25).sz = 3 from rfl, Nat.mul_one, Nat.add_zero] at hf37_0); have hx37_1 := hcc37 1 _ rfl; (try simp only [show (k25).sz = 3 from rfl, Nat.mul_one, Nat.add_zero] at hx37_1); have hf37_1 := hfr37 1; (try simp only [show (k25).sz = 3 from rfl, Nat.mul_one, Nat.add_zero] at hf37_1); have hx37_2 := hcc37 2 _ rfl; (try simp only [show (k25).sz = 3 from rfl, Nat.mul_one, Nat.add_zero] at hx37_2); have hf37_2 := hfr37 2; (try simp only [show (k25).sz = 3 from rfl, Nat.mul_one, Nat.add_zero] at hf37_2); clear hcl37 hcc37 hfr37 hM37) | ((with_reducible refine gate_store (t := 25) (p := 14) rfl ?_); refine store_event (t := 25) (p := 14) (v := ?vo_w38) (w1 := (((w35.setCell ⟨go7, (a1 : Int).toNat * 3, none⟩ (.string a2_0)).setCell ⟨go7, (a1 : Int).toNat * 3 + 1, none⟩ (.int .u64 a2_1)).setCell ⟨go7, (a1 : Int).toNat * 3 + 2, none⟩ (.int .u64 a2_2))) ?hg ?ho ?hn ?hr ?_; (case ho => rfl); (case hg => rfl); (case hn => rfl); (case hr => first | (go_simp; done) | (go_simp; rfl)); intro w38 hw; have hg : w35.grownBy w38 (some go7) := (by rw [hw]; exact HP37.2); have hp_ : Kd.R k25 25 w38 w.heap.size (fun k_ => (w.heap.size ≤ k_) ∧ k_ ≠ gb315) (.slice (some ⟨go7, 0, none⟩) t316.length co7) y319 := (by rw [hw, Ny319.out]; exact HP37.1); clear HP37; have n0_ := Aside0.mk (blk_grown (bT BK315.out) hg (Kd.R_away HO318.out (fun _ hk => hk.2))); have n1_ := Aside0.mk (hp_); have n2_ := Aside0.mk ((by rw [hw]; exact below_set (below_set (below_set (HB.out) GB7.out) GB7.out) GB7.out : Below w.heap.size w w38)); clear BK315 HO318 HB; have BK315 := n0_; have HO318 := n1_; have HB := n2_; clear n0_ n1_ n2_ hg hw hp_) | ((with_reducible refine gate_callee (f := 18) rfl ?_); refine goesL_ (some 17) rfl rfl Try.func18 (by kernel_rfl) rfl #[.slice (some ⟨go7, 0, none⟩) y319.length co7, .int .i64 a1] rfl (by (try simp only [List.map_toArray, List.map_cons, List.map_nil]); first | done | (rw [show y319.length = t316.length from (Kd.R_reads' HO318.out).1.symm] <;> rfl) | rfl | (simp only [List.length_drop, List.length_take]; rfl)) ?_; (with_reducible refine (samphireref11_Lift.calls k (fun k_ => some k_ = (.slice (some ⟨go7, 0, none⟩) t316.length co7 : Value).ownBlock) _ _ y319 a1 t320 _ ?side1 A8.out).mono ?_); (case side1 => rw [show y319.length = t316.length from (Kd.R_reads' HO318.out).1.symm]; exact Kd.R_V (Kd.R_tight rfl (HO318.out))); rintro e w39 ⟨v321, rfl, ho0, hb⟩; refine ⟨_, rfl, ?_⟩; have n0_ := Aside0.mk (Kd.R_below (by (with_reducible repeat (first | apply Kd.R_alloc | apply Kd.R_drewN | apply Kd.R_drew)); exact HO318.out) hb); have n1_ := Aside0.mk (Kd.V_lower (Kd.V_mono (ok' := fun k_ => (w.heap.size ≤ k_) ∧ k_ ≠ gb315) ho0 (fun k_ hk_ => ⟨Or.elim hk_ (fun hs_ => ((HO318.out).1 k_ hs_.symm).1) (fun hn_ => (Nat.le_trans (below_size (bW HB.out)) hn_)), Or.elim hk_ (fun hs_ => ((HO318.out).1 k_ hs_.symm).2) (fun hn_ => (Kd.freshB (bT BK315.out) k_ hn_))⟩)) (below_size (bW HB.out))); have n2_ := Aside0.mk (blk_below (bT BK315.out) hb); have n3_ := Aside0.mk (below_step (bW HB.out) hb); clear HO318 BK315 HB; have HO318 := n0_; have HO322 := n1_; have BK315 := n2_; have HB := n3_; clear n0_ n1_ n2_ n3_; (try clear hb); (try clear hb2); (try clear hk); (try clear hi); (try clear ho0)))
    have n0_ := Aside0.mk (Kd.R_drew HO318.out)
    have n1_ := Aside0.mk (Kd.V_drew HO322.out)
    have n2_ := Aside0.mk (blk_drew BK315.out)
    have n3_ := Aside0.mk (below_drew1 HB.out)
    clear HO318 HO322 BK315 HB
    have HO318 := n0_
    have HO322 := n1_
    have BK315 := n2_
    have HB := n3_
    clear n0_ n1_ n2_ n3_
    refine start_ (n := 13) (S := fun w' => True) (ds := []) #[false, false, false, false, false, false, false, false, false, false, false, false, false] (by kernel_rfl) rfl rfl trivial (fun hHeld => ?_); refine with_tabW samphireref11_Put.tab4 samphireref11_Put.bits4 (fun HT_ HW_ => ?_)
    generalize w39.drew = w40 at HO318 HO322 BK315 HB hHeld ⊢
    refine pure_ (i := 0) (N := some 18) (v := ?_) (a' := ?_) #[true, false, false, false, false, false, false, false, false, false, false, false, false] rfl rfl (any_of HT_.out (by kernel_rfl)) (fun _ _ _ h => h) (Or.inl ⟨by rfl, ?_⟩) ?_ ?_
    rotate_left
    ·
     intro w'
     go_simp
     with_reducible rfl
    rotate_left
    · exact bA
    refine pure_ (i := 1) (N := some 19) (v := ?_) (a' := ?_) #[true, true, false, false, false, false, false, false, false, false, false, false, false] rfl rfl (any_of HT_.out (by kernel_rfl)) (fun _ _ _ h => h) (Or.inl ⟨by rfl, ?_⟩) ?_ ?_
    rotate_left
    ·
     intro w'
     go_simp
     with_reducible rfl
    rotate_left
    · exact bA
    refine pure_ (i := 2) (N := some 20) (v := ?_) (a' := ?_) #[true, true, true, false, false, false, false, false, false, false, false, false, false] rfl rfl (any_of HT_.out (by kernel_rfl)) (fun _ _ _ h => h) (Or.inl ⟨by rfl, ?_⟩) ?_ ?_
    rotate_left
    ·
     intro w'
     go_simp
     with_reducible rfl
    rotate_left
    · exact bA
    refine pure_ (i := 3) (N := some 21) (v := undef) (a' := ?_) #[true, true, true, true, false, false, false, false, false, false, false, false, false] rfl rfl (any_of HT_.out (by kernel_rfl)) (fun _ _ _ h => h) (Or.inr ⟨by rfl, rfl⟩) ?_ ?_
    rotate_left
    · exact bA
    refine pure_ (i := 4) (N := some 22) (v := undef) (a' := ?_) #[true, true, true, true, true, false, false, false, false, false, false, false, false] rfl rfl (any_of HT_.out (by kernel_rfl)) (fun _ _ _ h => h) (Or.inr ⟨by rfl, rfl⟩) ?_ ?_
    rotate_left
    · exact bA
    refine pure_ (i := 5) (N := some 23) (v := undef) (a' := ?_) #[true, true, true, true, true, true, false, false, false, false, false, false, false] rfl rfl (any_of HT_.out (by kernel_rfl)) (fun _ _ _ h => h) (Or.inr ⟨by rfl, rfl⟩) ?_ ?_
    rotate_left
    · exact bA
    refine pure_ (i := 6) (N := some 24) (v := undef) (a' := ?_) #[true, true, true, true, true, true, true, false, false, false, false, false, false] rfl rfl (any_of HT_.out (by kernel_rfl)) (fun _ _ _ h => h) (Or.inr ⟨by rfl, rfl⟩) ?_ ?_
    rotate_left
    · exact bA
    refine pure_ (i := 7) (N := some 25) (v := undef) (a' := ?_) #[true, true, true, true, true, true, true, true, false, false, false, false, false] rfl rfl (any_of HT_.out (by kernel_rfl)) (fun _ _ _ h => h) (Or.inr ⟨by rfl, rfl⟩) ?_ ?_
    rotate_left
    · exact bA
    refine pure_ (i := 8) (N := some 26) (v := undef) (a' := ?_) #[true, true, true, true, true, true, true, true, true, false, false, false, false] rfl rfl (any_of HT_.out (by kernel_rfl)) (fun _ _ _ h => h) (Or.inr ⟨by rfl, rfl⟩) ?_ ?_
    rotate_left
    · exact bA
    refine pure_ (i := 9) (N := some 27) (v := undef) (a' := ?_) #[true, true, true, true, true, true, true, true, true, true, false, false, false] rfl rfl (any_of HT_.out (by kernel_rfl)) (fun _ _ _ h => h) (Or.inr ⟨by rfl, rfl⟩) ?_ ?_
    rotate_left
    · exact bA
    refine pure_ (i := 10) (N := some 28) (v := undef) (a' := ?_) #[true, true, true, true, true, true, true, true, true, true, true, false, false] rfl rfl (any_of HT_.out (by kernel_rfl)) (fun _ _ _ h => h) (Or.inr ⟨by rfl, rfl⟩) ?_ ?_
    rotate_left
    · exact bA
    refine pure_ (i := 11) (N := some 29) (v := undef) (a' := ?_) #[true, true, true, true, true, true, true, true, true, true, true, true, false] rfl rfl (any_of HT_.out (by kernel_rfl)) (fun _ _ _ h => h) (Or.inr ⟨by rfl, rfl⟩) ?_ ?_
    rotate_left
    · exact bA
    refine pure_ (i := 12) (N := some 30) (v := ?_) (a' := ?_) #[true, true, true, true, true, true, true, true, true, true, true, true, true] rfl rfl (any_of HT_.out (by kernel_rfl)) (fun _ _ _ h => h) (Or.inl ⟨by rfl, ?_⟩) ?_ ?_
    rotate_left
    ·
     intro w'
     go_simp
     with_reducible rfl
    rotate_left
    · exact bA
    refine done_ (done_of HT_.out (by kernel_rfl)) ?_
    try go_wp2_with (first | ((with_reducible refine gate_callee (f := 36) rfl ?_); refine goesL_ (some 34) rfl rfl Try.func36 (by kernel_rfl) rfl #[.slice (some ⟨go7, 0, none⟩) y319.length co7, .int .i64 a1] rfl (by (try simp only [List.map_toArray, List.map_cons, List.map_nil]); first | done | (rw [show y319.length = t316.length from (Kd.R_reads' HO318.out).1.symm] <;> rfl) | rfl | (simp only [List.length_drop, List.length_take]; rfl)) ?_; (with_reducible refine (samphireref11_Sink.calls k (fun k_ => some k_ = (.slice (some ⟨go7, 0, none⟩) t316.length co7 : Value).ownBlock) _ _ y319 a1 t328 _ ?side1 A33.out).mono ?_); (case side1 => rw [show y319.length = t316.length from (Kd.R_reads' HO318.out).1.symm]; exact Kd.R_V (Kd.R_tight rfl (HO318.out))); rintro e w41 ⟨v329, rfl, ho0, hb⟩; refine ⟨_, rfl, ?_⟩; have n0_ := Aside0.mk (Kd.R_below (by (with_reducible repeat (first | apply Kd.R_alloc | apply Kd.R_drewN | apply Kd.R_drew)); exact HO318.out) hb); have n1_ := Aside0.mk (Kd.V_below (by (with_reducible repeat (first | apply Kd.V_alloc | apply Kd.V_drewN | apply Kd.V_drew)); exact HO322.out) hb); have n2_ := Aside0.mk (Kd.V_lower (Kd.V_mono (ok' := fun k_ => (w.heap.size ≤ k_) ∧ k_ ≠ gb315) ho0 (fun k_ hk_ => ⟨Or.elim hk_ (fun hs_ => ((HO318.out).1 k_ hs_.symm).1) (fun hn_ => (Nat.le_trans (below_size (bW HB.out)) hn_)), Or.elim hk_ (fun hs_ => ((HO318.out).1 k_ hs_.symm).2) (fun hn_ => (Kd.freshB (bT BK315.out) k_ hn_))⟩)) (below_size (bW HB.out))); have n3_ := Aside0.mk (blk_below (bT BK315.out) hb); have n4_ := Aside0.mk (below_step (bW HB.out) hb); clear HO318 HO322 BK315 HB; have HO318 := n0_; have HO322 := n1_; have HO330 := n2_; have BK315 := n3_; have HB := n4_; clear n0_ n1_ n2_ n3_ n4_; (try clear hb); (try clear hb2); (try clear hk); (try clear hi); (try clear ho0)))
    go_ret
    exact ⟨_, by first | rfl | (simp [errW_none, errW_some] <;> rfl) | (simp [*, errW_none, errW_some] <;> rfl), by (with_reducible repeat (first | apply Kd.V_alloc | apply Kd.V_drewN | apply Kd.V_drew)); exact Kd.V_mono HO330.out (fun _ hk => hk.1), by repeat (first | (with_reducible first | exact HB.out | apply below_alloc | apply pw_below_drewN | apply below_drew1 | refine below_set ?_ GE315.out) | exact HB.out)⟩
  ·
   rw [if_neg c6] at H
   exact absurd H (by simp)
 ·
  rw [if_neg c5] at H
  exact absurd H (by simp)
end Go.Proofs.Ytobdhjnaglikaaa.Q
