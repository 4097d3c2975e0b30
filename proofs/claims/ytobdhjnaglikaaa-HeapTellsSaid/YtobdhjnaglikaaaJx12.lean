import Derived.Test.YtobdhjnaglikaaaQx0
import Derived.Test.YtobdhjnaglikaaaJx10
import Derived.Test.YtobdhjnaglikaaaJx11
namespace Go.Proofs.Ytobdhjnaglikaaa.Q
open Go.RowKit Go.Proofs.YtobdhjnaglikaaaW.PrintWords Go.Proofs.YtobdhjnaglikaaaW.PrintLast Go.Proofs.YtobdhjnaglikaaaW.PrintMore
attribute [local go_sem] max2_int min2_int max_two min_two max_three min_three max_four min_four
set_option linter.unusedVariables false
set_option linter.unusedSimpArgs false
def samphireref11_swap.f (l0 : List (S25)) (a1 : Int) (a2 : Int) : Option ((List (S25))) := (samphireref11_copied.f l0).bind fun t275 => (if 0 ≤ a2 then (if a2 < (l0.length : Int) then (if 0 ≤ a1 then (if a1 < (l0.length : Int) then (if a1 < (t275.length : Int) then (if a2 < (t275.length : Int) then (some ((t275.set (a1 : Int).toNat (⟨(rd_T25 l0 a2).f0, (rd_T25 l0 a2).f1, (rd_T25 l0 a2).f2⟩ : S25)).set (a2 : Int).toNat (⟨(rd_T25 l0 a1).f0, (rd_T25 l0 a1).f1, (rd_T25 l0 a1).f2⟩ : S25))) else (none)) else (none)) else (none)) else (none)) else (none)) else (none))
def samphireref11_swap.T2 : Bool × List (List Nat × List Nat) := (true, [([], []), ([], []), ([], []), ([], []), ([], []), ([], []), ([4, 5], [4, 5]), ([6], [6]), ([], []), ([], []), ([8, 9], [8, 9]), ([10], [10]), ([0, 1, 0, 1, 4, 5, 6, 7, 11], [0, 1]), ([12, 7, 0, 1, 4, 5, 6, 7, 11], [7, 12]), ([2, 3, 0, 1, 2, 3, 4, 5, 6, 7, 8, 9, 10, 11, 12, 13], [2, 3]), ([14, 11, 13, 0, 1, 2, 3, 4, 5, 6, 7, 8, 9, 10, 11, 12, 13], [11, 14])])
def samphireref11_swap.B2 : List Nat := [0, 0, 0, 0, 0, 0, 48, 112, 0, 0, 768, 1792, 4083, 8179, 16383, 32767]
theorem samphireref11_swap.tab2 : rtab .any (opsOf Try.f34 2) = samphireref11_swap.T2 := by kernel_rfl
theorem samphireref11_swap.bits2 : waitsOk samphireref11_swap.T2.2 samphireref11_swap.B2 = true := by kernel_rfl
set_option maxHeartbeats 8000000 in
set_option maxRecDepth 100000 in
theorem samphireref11_swap.calls (A0 : Option Addr) (c0 : Nat) (l0 : List (S25)) (a1 : Int) (a2 : Int) (r : List (S25)) (w : World) (hr0 : Kd.C k25 w A0 l0.length l0) (hc0 : l0.length ≤ c0) (h : samphireref11_swap.f l0 a1 a2 = some r) :
  Calls Try.prog 34 #[.slice A0 l0.length c0, .int .i64 a1, .int .i64 a2] w fun e w' => ∃ v0_ : Value, e = .returned (v0_) ∧ Kd.R k25 25 w' w.heap.size (fun _ => True) v0_ r ∧ Below w.heap.size w w' := by
 have hu25 := Try.underlying25
 have HR0 := Aside0.mk hr0
 have HC0 := Aside0.mk hc0
 clear hr0 hc0
 have HB := Aside0.mk (Below.refl w.heap.size w)
 have H : ((samphireref11_copied.f l0).bind fun t275 => (if 0 ≤ a2 then (if a2 < (l0.length : Int) then (if 0 ≤ a1 then (if a1 < (l0.length : Int) then (if a1 < (t275.length : Int) then (if a2 < (t275.length : Int) then (some ((t275.set (a1 : Int).toNat (⟨(rd_T25 l0 a2).f0, (rd_T25 l0 a2).f1, (rd_T25 l0 a2).f2⟩ : S25)).set (a2 : Int).toNat (⟨(rd_T25 l0 a1).f0, (rd_T25 l0 a1).f1, (rd_T25 l0 a1).f2⟩ : S25))) else (none)) else (none)) else (none)) else (none)) else (none)) else (none))) = some r := h
 clear h
 replace H := Option.bind_eq_some_iff.mp H
 obtain ⟨t275, A40, H⟩ := H
 replace H : (if 0 ≤ a2 then (if a2 < (l0.length : Int) then (if 0 ≤ a1 then (if a1 < (l0.length : Int) then (if a1 < (t275.length : Int) then (if a2 < (t275.length : Int) then (some ((t275.set (a1 : Int).toNat (⟨(rd_T25 l0 a2).f0, (rd_T25 l0 a2).f1, (rd_T25 l0 a2).f2⟩ : S25)).set (a2 : Int).toNat (⟨(rd_T25 l0 a1).f0, (rd_T25 l0 a1).f1, (rd_T25 l0 a1).f2⟩ : S25))) else (none)) else (none)) else (none)) else (none)) else (none)) else (none)) = some r := H
 have A4 := Aside0.mk A40
 clear A40
 by_cases c5 : 0 ≤ a2
 ·
  rw [if_pos c5] at H
  have c5b0 : decide (0 ≤ a2) = true := decide_eq_true c5
  clear c5
  by_cases c6 : a2 < (l0.length : Int)
  ·
   rw [if_pos c6] at H
   have c6b0 : decide (a2 < (l0.length : Int)) = true := decide_eq_true c6
   clear c6
   by_cases c7 : 0 ≤ a1
   ·
    rw [if_pos c7] at H
    have c7b0 : decide (0 ≤ a1) = true := decide_eq_true c7
    clear c7
    by_cases c8 : a1 < (l0.length : Int)
    ·
     rw [if_pos c8] at H
     have c8b0 : decide (a1 < (l0.length : Int)) = true := decide_eq_true c8
     clear c8
     by_cases c9 : a1 < (t275.length : Int)
     ·
      rw [if_pos c9] at H
      have c9b0 : decide (a1 < (t275.length : Int)) = true := decide_eq_true c9
      clear c9
      obtain ⟨y280, hy280⟩ : ∃ y_ : List (S25), y_ = (t275.set (a1 : Int).toNat (⟨(rd_T25 l0 a2).f0, (rd_T25 l0 a2).f1, (rd_T25 l0 a2).f2⟩ : S25)) := ⟨_, rfl⟩
      replace H : (if a2 < (t275.length : Int) then (some (y280.set (a2 : Int).toNat (⟨(rd_T25 l0 a1).f0, (rd_T25 l0 a1).f1, (rd_T25 l0 a1).f2⟩ : S25))) else (none)) = some r := by first | (rw [hy280]; with_reducible exact H) | (have H2_ := (Option.bind_some _ _).symm.trans H; rw [hy280]; with_reducible exact H2_) | (have H2_ := (Option.bind_some _ _).symm.trans H; with_reducible exact H2_) | with_reducible exact H | (rw [hy280]; exact H) | exact H
      have Ny280 := Aside0.mk hy280
      clear hy280
      by_cases c11 : a2 < (t275.length : Int)
      ·
       rw [if_pos c11] at H
       have c11b0 : decide (a2 < (t275.length : Int)) = true := decide_eq_true c11
       clear c11
       obtain ⟨y281, hy281⟩ : ∃ y_ : List (S25), y_ = (y280.set (a2 : Int).toNat (⟨(rd_T25 l0 a1).f0, (rd_T25 l0 a1).f1, (rd_T25 l0 a1).f2⟩ : S25)) := ⟨_, rfl⟩
       replace H : (some y281) = some r := by first | (rw [hy281]; with_reducible exact H) | (have H2_ := (Option.bind_some _ _).symm.trans H; rw [hy281]; with_reducible exact H2_) | (have H2_ := (Option.bind_some _ _).symm.trans H; with_reducible exact H2_) | with_reducible exact H | (rw [hy281]; exact H) | exact H
       have Ny281 := Aside0.mk hy281
       clear hy281
       obtain rfl := Option.some.inj H
       go_enter Try.func34, Try.ntmps34
       try go_wp2_with (first | ((with_reducible refine gate_callee (f := 35) rfl ?_); refine goesL_ (some 9) rfl rfl Try.func35 (by kernel_rfl) rfl #[.slice A0 l0.length c0] rfl (by (try simp only [List.map_toArray, List.map_cons, List.map_nil]); first | done | rfl | (simp only [List.length_drop, List.length_take]; rfl)) ?_; (with_reducible refine (samphireref11_copied.calls _ _ l0 t275 _ ?side1 ?side2 A4.out).mono ?_); (case side1 => repeat (first | exact HR0.out | (with_reducible refine Kd.C_alloc ?_ _) | (with_reducible refine Kd.C_drewN ?_ _) | (with_reducible refine Kd.C_drew ?_))); (case side2 => exact HC0.out); rintro e w13 ⟨v276, rfl, ho0, hb⟩; refine ⟨_, rfl, ?_⟩; have n0_ := Aside0.mk (Kd.R_lower ho0 (below_size (bW HB.out))); have n1_ := Aside0.mk (below_step (bW HB.out) hb); clear HB; have HO277 := n0_; have HB := n1_; clear n0_ n1_; (try clear hb); (try clear hb2); (try clear hk); (try clear hi); (try clear ho0)))
       have n0_ := Aside0.mk (Kd.R_drew HO277.out)
       have n1_ := Aside0.mk (below_drew1 HB.out)
       clear HO277 HB
       have HO277 := n0_
       have HB := n1_
       clear n0_ n1_
       have p278 : 0 ≤ (a2 : Int) := of_decide_eq_true (by first | (with_reducible assumption) | assumption)
       have q278 : a2 < (l0.length : Int) := of_decide_eq_true (by first | (with_reducible assumption) | assumption)
       obtain ⟨ad278, e278, hx278_0, hx278_1, hx278_2⟩ := at_T25 HR0.out a2 p278 q278
       have hw278_2 := hx278_2
       have hw278_1 := hx278_1
       have hw278_0 := hx278_0
       cases e278
       replace hx278_0 := (HB.out.cell (World.block_lt_of_cell? w _ hx278_0)).trans hx278_0
       replace hx278_1 := (HB.out.cell (World.block_lt_of_cell? w _ hx278_1)).trans hx278_1
       replace hx278_2 := (HB.out.cell (World.block_lt_of_cell? w _ hx278_2)).trans hx278_2
       replace p278 := eq_true p278
       replace q278 := eq_true q278
       have p279 : 0 ≤ (a1 : Int) := of_decide_eq_true (by first | (with_reducible assumption) | assumption)
       have q279 : a1 < (l0.length : Int) := of_decide_eq_true (by first | (with_reducible assumption) | assumption)
       obtain ⟨ad279, e279, hx279_0, hx279_1, hx279_2⟩ := at_T25 HR0.out a1 p279 q279
       have hw279_2 := hx279_2
       have hw279_1 := hx279_1
       have hw279_0 := hx279_0
       obtain rfl : ad278 = ad279 := (by injection e279)
       replace hx279_0 := (HB.out.cell (World.block_lt_of_cell? w _ hx279_0)).trans hx279_0
       replace hx279_1 := (HB.out.cell (World.block_lt_of_cell? w _ hx279_1)).trans hx279_1
       replace hx279_2 := (HB.out.cell (World.block_lt_of_cell? w _ hx279_2)).trans hx279_2
       replace p279 := eq_true p279
       replace q279 := eq_true q279
       have p10 : 0 ≤ (a1 : Int) := of_decide_eq_true (by first | (with_reducible assumption) | assumption)
       have q10 : (a1 : Int) < ((t275.length : Int) : Int) := of_decide_eq_true (by first | (with_reducible assumption) | assumption)
       obtain ⟨go10, co10, eo10, gb10, gl10, cl10, HG10⟩ := Kd.R_form HO277.out (by omega)
       (first | cases eo10 | (injection eo10 with ea_ en_ ec_; (first | subst ea_ | (injection ea_ with ea_; subst ea_)); subst ec_; clear en_))
       have GB10 := Aside0.mk gb10
       have GG10 := Aside0.mk HG10
       clear gb10 gl10 HG10
       obtain ⟨ce10, hcl10, hM10, hcc10, hfr10⟩ := Kd.R_elem HO277.out z25 (a1 : Int) p10 q10
       obtain rfl := k25_openM hM10
       have hx10_0 : World.cell? _ ⟨go10, (a1 : Int).toNat * 3, none⟩ = some (.string ((rd_T25 t275 a1).f0)) := hcc10 0 _ rfl
       have hx10_1 : World.cell? _ ⟨go10, (a1 : Int).toNat * 3 + 1, none⟩ = some (.int .u64 ((rd_T25 t275 a1).f1)) := hcc10 1 _ rfl
       have hx10_2 : World.cell? _ ⟨go10, (a1 : Int).toNat * 3 + 2, none⟩ = some (.int .u64 ((rd_T25 t275 a1).f2)) := hcc10 2 _ rfl
       have hf10_0 : World.frozen? _ ⟨go10, (a1 : Int).toNat * 3, none⟩ = false := hfr10 0
       have hf10_1 : World.frozen? _ ⟨go10, (a1 : Int).toNat * 3 + 1, none⟩ = false := hfr10 1
       have hf10_2 : World.frozen? _ ⟨go10, (a1 : Int).toNat * 3 + 2, none⟩ = false := hfr10 2
       clear hcl10 hcc10 hfr10 hM10
       replace p10 := eq_true p10
       replace q10 := eq_true q10
       obtain ⟨ce15, hcl15, hM15, hcc15, hfr15⟩ := Kd.R_elem HO277.out z25 (a1 : Int) (of_decide_eq_true (by first | (with_reducible assumption) | assumption)) (by have h_ : (a1 : Int) < ((t275.length : Int) : Int) := of_decide_eq_true (by first | (with_reducible assumption) | assumption); first | exact h_ | (have e_ := (Kd.R_reads' HO277.out).1; omega) | simpa using h_)
       obtain rfl := k25_openM hM15
       have HP15 := (Kd.R_seg HO277.out (a1 : Int) (of_decide_eq_true (by first | (with_reducible assumption) | assumption)) (by have h_ : (a1 : Int) < ((t275.length : Int) : Int) := of_decide_eq_true (by first | (with_reducible assumption) | assumption); first | exact h_ | (have e_ := (Kd.R_reads' HO277.out).1; omega) | simpa using h_) (seg := [.string ((rd_T25 l0 a2).f0), .int .u64 ((rd_T25 l0 a2).f1), .int .u64 ((rd_T25 l0 a2).f2)]) (j := 0) hcl15 hcc15 (show 3 ≤ 3 from by decide) (x' := (⟨(rd_T25 l0 a2).f0, (rd_T25 l0 a2).f1, (rd_T25 l0 a2).f2⟩ : S25)) (k25_mkM _ _ _ (⟨(rd_T25 l0 a2).f0, (rd_T25 l0 a2).f1, (rd_T25 l0 a2).f2⟩ : S25) ) (fun _ hk => hk)).1
       rw [← Ny280.out] at HP15
       have HQ15 := Aside0.mk HP15
       clear hcl15 hcc15 hfr15 hM15 HP15
       have p12 : 0 ≤ (a2 : Int) := of_decide_eq_true (by first | (with_reducible assumption) | assumption)
       have q12 : (a2 : Int) < ((t275.length : Int) : Int) := of_decide_eq_true (by first | (with_reducible assumption) | assumption)
       obtain ⟨cy12, _, hMy12, hccy12, hfry12⟩ := Kd.R_elem HO277.out z25 (a2 : Int) p12 q12
       obtain rfl := k25_openM hMy12
       have hz12_0 : World.cell? _ ⟨go10, (a2 : Int).toNat * 3, none⟩ = some _ := hccy12 0 _ rfl
       have hg12_0 : World.frozen? _ ⟨go10, (a2 : Int).toNat * 3, none⟩ = false := hfry12 0
       obtain ⟨vy12_0_0_0, hy12_0_0_0⟩ := cell?_setCell_some (p := ⟨go10, (a1 : Int).toNat * 3, none⟩) (x := .string ((rd_T25 l0 a2).f0)) hz12_0
       obtain ⟨vy12_0_01_0, hy12_0_01_0⟩ := cell?_setCell_some (p := ⟨go10, (a1 : Int).toNat * 3, none⟩) (x := .string ((rd_T25 l0 a2).f0)) hz12_0
       obtain ⟨vy12_0_01_1, hy12_0_01_1⟩ := cell?_setCell_some (p := ⟨go10, (a1 : Int).toNat * 3 + 1, none⟩) (x := .int .u64 ((rd_T25 l0 a2).f1)) hy12_0_01_0
       obtain ⟨vy12_0_02_0, hy12_0_02_0⟩ := cell?_setCell_some (p := ⟨go10, (a1 : Int).toNat * 3, none⟩) (x := .string ((rd_T25 l0 a2).f0)) hz12_0
       obtain ⟨vy12_0_02_2, hy12_0_02_2⟩ := cell?_setCell_some (p := ⟨go10, (a1 : Int).toNat * 3 + 2, none⟩) (x := .int .u64 ((rd_T25 l0 a2).f2)) hy12_0_02_0
       obtain ⟨vy12_0_012_0, hy12_0_012_0⟩ := cell?_setCell_some (p := ⟨go10, (a1 : Int).toNat * 3, none⟩) (x := .string ((rd_T25 l0 a2).f0)) hz12_0
       obtain ⟨vy12_0_012_1, hy12_0_012_1⟩ := cell?_setCell_some (p := ⟨go10, (a1 : Int).toNat * 3 + 1, none⟩) (x := .int .u64 ((rd_T25 l0 a2).f1)) hy12_0_012_0
       obtain ⟨vy12_0_012_2, hy12_0_012_2⟩ := cell?_setCell_some (p := ⟨go10, (a1 : Int).toNat * 3 + 2, none⟩) (x := .int .u64 ((rd_T25 l0 a2).f2)) hy12_0_012_1
       have hz12_1 : World.cell? _ ⟨go10, (a2 : Int).toNat * 3 + 1, none⟩ = some _ := hccy12 1 _ rfl
       have hg12_1 : World.frozen? _ ⟨go10, (a2 : Int).toNat * 3 + 1, none⟩ = false := hfry12 1
       obtain ⟨vy12_1_1_1, hy12_1_1_1⟩ := cell?_setCell_some (p := ⟨go10, (a1 : Int).toNat * 3 + 1, none⟩) (x := .int .u64 ((rd_T25 l0 a2).f1)) hz12_1
       obtain ⟨vy12_1_01_0, hy12_1_01_0⟩ := cell?_setCell_some (p := ⟨go10, (a1 : Int).toNat * 3, none⟩) (x := .string ((rd_T25 l0 a2).f0)) hz12_1
       obtain ⟨vy12_1_01_1, hy12_1_01_1⟩ := cell?_setCell_some (p := ⟨go10, (a1 : Int).toNat * 3 + 1, none⟩) (x := .int .u64 ((rd_T25 l0 a2).f1)) hy12_1_01_0
       obtain ⟨vy12_1_12_1, hy12_1_12_1⟩ := cell?_setCell_some (p := ⟨go10, (a1 : Int).toNat * 3 + 1, none⟩) (x := .int .u64 ((rd_T25 l0 a2).f1)) hz12_1
       obtain ⟨vy12_1_12_2, hy12_1_12_2⟩ := cell?_setCell_some (p := ⟨go10, (a1 : Int).toNat * 3 + 2, none⟩) (x := .int .u64 ((rd_T25 l0 a2).f2)) hy12_1_12_1
       obtain ⟨vy12_1_012_0, hy12_1_012_0⟩ := cell?_setCell_some (p := ⟨go10, (a1 : Int).toNat * 3, none⟩) (x := .string ((rd_T25 l0 a2).f0)) hz12_1
       obtain ⟨vy12_1_012_1, hy12_1_012_1⟩ := cell?_setCell_some (p := ⟨go10, (a1 : Int).toNat * 3 + 1, none⟩) (x := .int .u64 ((rd_T25 l0 a2).f1)) hy12_1_012_0
       obtain ⟨vy12_1_012_2, hy12_1_012_2⟩ := cell?_setCell_some (p := ⟨go10, (a1 : Int).toNat * 3 + 2, none⟩) (x := .int .u64 ((rd_T25 l0 a2).f2)) hy12_1_012_1
       have hz12_2 : World.cell? _ ⟨go10, (a2 : Int).toNat * 3 + 2, none⟩ = some _ := hccy12 2 _ rfl
       have hg12_2 : World.frozen? _ ⟨go10, (a2 : Int).toNat * 3 + 2, none⟩ = false := hfry12 2
       obtain ⟨vy12_2_2_2, hy12_2_2_2⟩ := cell?_setCell_some (p := ⟨go10, (a1 : Int).toNat * 3 + 2, none⟩) (x := .int .u64 ((rd_T25 l0 a2).f2)) hz12_2
       obtain ⟨vy12_2_02_0, hy12_2_02_0⟩ := cell?_setCell_some (p := ⟨go10, (a1 : Int).toNat * 3, none⟩) (x := .string ((rd_T25 l0 a2).f0)) hz12_2
       obtain ⟨vy12_2_02_2, hy12_2_02_2⟩ := cell?_setCell_some (p := ⟨go10, (a1 : Int).toNat * 3 + 2, none⟩) (x := .int .u64 ((rd_T25 l0 a2).f2)) hy12_2_02_0
       obtain ⟨vy12_2_12_1, hy12_2_12_1⟩ := cell?_setCell_some (p := ⟨go10, (a1 : Int).toNat * 3 + 1, none⟩) (x := .int .u64 ((rd_T25 l0 a2).f1)) hz12_2
       obtain ⟨vy12_2_12_2, hy12_2_12_2⟩ := cell?_setCell_some (p := ⟨go10, (a1 : Int).toNat * 3 + 2, none⟩) (x := .int .u64 ((rd_T25 l0 a2).f2)) hy12_2_12_1
       obtain ⟨vy12_2_012_0, hy12_2_012_0⟩ := cell?_setCell_some (p := ⟨go10, (a1 : Int).toNat * 3, none⟩) (x := .string ((rd_T25 l0 a2).f0)) hz12_2
       obtain ⟨vy12_2_012_1, hy12_2_012_1⟩ := cell?_setCell_some (p := ⟨go10, (a1 : Int).toNat * 3 + 1, none⟩) (x := .int .u64 ((rd_T25 l0 a2).f1)) hy12_2_012_0
       obtain ⟨vy12_2_012_2, hy12_2_012_2⟩ := cell?_setCell_some (p := ⟨go10, (a1 : Int).toNat * 3 + 2, none⟩) (x := .int .u64 ((rd_T25 l0 a2).f2)) hy12_2_012_1
       clear hccy12 hfry12 hMy12
       obtain ⟨ce12, hcl12, hM12, hcc12, hfr12⟩ := Kd.R_elem HQ15.out z25 (a2 : Int) p12 q12
       obtain rfl := k25_openM hM12
       have hx12_0 : World.cell? _ ⟨go10, (a2 : Int).toNat * 3, none⟩ = some (.string ((rd_T25 y280 a2).f0)) := hcc12 0 _ rfl
       have hx12_1 : World.cell? _ ⟨go10, (a2 : Int).toNat * 3 + 1, none⟩ = some (.int .u64 ((rd_T25 y280 a2).f1)) := hcc12 1 _ rfl
       have hx12_2 : World.cell? _ ⟨go10, (a2 : Int).toNat * 3 + 2, none⟩ = some (.int .u64 ((rd_T25 y280 a2).f2)) := hcc12 2 _ rfl
       have hf12_0 : World.frozen? _ ⟨go10, (a2 : Int).toNat * 3, none⟩ = false := hfr12 0
       have hf12_1 : World.frozen? _ ⟨go10, (a2 : Int).toNat * 3 + 1, none⟩ = false := hfr12 1
       have hf12_2 : World.frozen? _ ⟨go10, (a2 : Int).toNat * 3 + 2, none⟩ = false := hfr12 2
       clear hcl12 hcc12 hfr12 hM12
       replace p12 := eq_true p12
       replace q12 := eq_true q12
       obtain ⟨ce16, hcl16, hM16, hcc16, hfr16⟩ := Kd.R_elem HQ15.out z25 (a2 : Int) (of_decide_eq_true (by first | (with_reducible assumption) | assumption)) (by have h_ : (a2 : Int) < ((t275.length : Int) : Int) := of_decide_eq_true (by first | (with_reducible assumption) | assumption); first | exact h_ | (have e_ := (Kd.R_reads' HO277.out).1; omega) | simpa using h_)
       obtain rfl := k25_openM hM16
       have HP16 := (Kd.R_seg HQ15.out (a2 : Int) (of_decide_eq_true (by first | (with_reducible assumption) | assumption)) (by have h_ : (a2 : Int) < ((t275.length : Int) : Int) := of_decide_eq_true (by first | (with_reducible assumption) | assumption); first | exact h_ | (have e_ := (Kd.R_reads' HO277.out).1; omega) | simpa using h_) (seg := [.string ((rd_T25 l0 a1).f0), .int .u64 ((rd_T25 l0 a1).f1), .int .u64 ((rd_T25 l0 a1).f2)]) (j := 0) hcl16 hcc16 (show 3 ≤ 3 from by decide) (x' := (⟨(rd_T25 l0 a1).f0, (rd_T25 l0 a1).f1, (rd_T25 l0 a1).f2⟩ : S25)) (k25_mkM _ _ _ (⟨(rd_T25 l0 a1).f0, (rd_T25 l0 a1).f1, (rd_T25 l0 a1).f2⟩ : S25) ) (fun _ hk => hk)).1
       rw [← Ny281.out] at HP16
       have HQ16 := Aside0.mk HP16
       clear hcl16 hcc16 hfr16 hM16 HP16
       refine start_ (n := 16) (S := fun w' => w'.cell? (ad278.add ((a2).toNat * 3)) = some (.string ((rd_T25 l0 a2).f0)) ∧ w'.cell? ⟨(ad278.add ((a2).toNat * 3)).block, (ad278.add ((a2).toNat * 3)).off + 1, none⟩ = some (.int .u64 ((rd_T25 l0 a2).f1)) ∧ w'.cell? ⟨(ad278.add ((a2).toNat * 3)).block, (ad278.add ((a2).toNat * 3)).off + 2, none⟩ = some (.int .u64 ((rd_T25 l0 a2).f2)) ∧ w'.cell? (ad278.add ((a1).toNat * 3)) = some (.string ((rd_T25 l0 a1).f0)) ∧ w'.cell? ⟨(ad278.add ((a1).toNat * 3)).block, (ad278.add ((a1).toNat * 3)).off + 1, none⟩ = some (.int .u64 ((rd_T25 l0 a1).f1)) ∧ w'.cell? ⟨(ad278.add ((a1).toNat * 3)).block, (ad278.add ((a1).toNat * 3)).off + 2, none⟩ = some (.int .u64 ((rd_T25 l0 a1).f2))) (ds := [13, 15]) #[false, false, false, false, false, false, false, false, false, false, false, false, false, false, false, false] (by kernel_rfl) rfl rfl ⟨((HB.out.cell (World.block_lt_of_cell? w _ hw278_0)).trans hw278_0), ((HB.out.cell (World.block_lt_of_cell? w _ hw278_1)).trans hw278_1), ((HB.out.cell (World.block_lt_of_cell? w _ hw278_2)).trans hw278_2), ((HB.out.cell (World.block_lt_of_cell? w _ hw279_0)).trans hw279_0), ((HB.out.cell (World.block_lt_of_cell? w _ hw279_1)).trans hw279_1), ((HB.out.cell (World.block_lt_of_cell? w _ hw279_2)).trans hw279_2)⟩ (fun hHeld => ?_); refine with_tabW samphireref11_swap.tab2 samphireref11_swap.bits2 (fun HT_ HW_ => ?_)
       generalize w13.drew = w14 at HO277 HB GG10 HQ15 HQ16 hf10_0 hf10_1 hf10_2 hf12_0 hf12_1 hf12_2 hx10_0 hx10_1 hx10_2 hx12_0 hx12_1 hx12_2 hx278_0 hx278_1 hx278_2 hx279_0 hx279_1 hx279_2 hHeld hz12_0 hg12_0 hy12_0_0_0 hy12_0_01_0 hy12_0_01_1 hy12_0_02_0 hy12_0_02_2 hy12_0_012_0 hy12_0_012_1 hy12_0_012_2 hz12_1 hg12_1 hy12_1_1_1 hy12_1_01_0 hy12_1_01_1 hy12_1_12_1 hy12_1_12_2 hy12_1_012_0 hy12_1_012_1 hy12_1_012_2 hz12_2 hg12_2 hy12_2_2_2 hy12_2_02_0 hy12_2_02_2 hy12_2_12_1 hy12_2_12_2 hy12_2_012_0 hy12_2_012_1 hy12_2_012_2 ⊢
       refine pure_ (i := 0) (N := some 10) (v := ?_) (a' := ?_) #[true, false, false, false, false, false, false, false, false, false, false, false, false, false, false, false] rfl rfl (any_of HT_.out (by kernel_rfl)) (fun _ _ _ h => h) (Or.inl ⟨by rfl, ?_⟩) ?_ ?_
       rotate_left
       ·
        intro w'
        go_simp
        with_reducible rfl
       rotate_left
       · exact bA
       refine pure_ (i := 1) (N := some 11) (v := ?_) (a' := ?_) #[true, true, false, false, false, false, false, false, false, false, false, false, false, false, false, false] rfl rfl (any_of HT_.out (by kernel_rfl)) (fun _ _ _ h => h) (Or.inl ⟨by rfl, ?_⟩) ?_ ?_
       rotate_left
       ·
        intro w'
        go_simp
        with_reducible rfl
       rotate_left
       · exact bA
       refine pure_ (i := 2) (N := some 12) (v := ?_) (a' := ?_) #[true, true, true, false, false, false, false, false, false, false, false, false, false, false, false, false] rfl rfl (any_of HT_.out (by kernel_rfl)) (fun _ _ _ h => h) (Or.inl ⟨by rfl, ?_⟩) ?_ ?_
       rotate_left
       ·
        intro w'
        go_simp
        with_reducible rfl
       rotate_left
       · exact bA
       refine pure_ (i := 3) (N := some 13) (v := ?_) (a' := ?_) #[true, true, true, true, false, false, false, false, false, false, false, false, false, false, false, false] rfl rfl (any_of HT_.out (by kernel_rfl)) (fun _ _ _ h => h) (Or.inl ⟨by rfl, ?_⟩) ?_ ?_
       rotate_left
       ·
        intro w'
        go_simp
        with_reducible rfl
       rotate_left
       · exact bA
       refine pure_ (i := 4) (N := some 14) (v := ?_) (a' := ?_) #[true, true, true, true, true, false, false, false, false, false, false, false, false, false, false, false] rfl rfl (any_of HT_.out (by kernel_rfl)) (fun _ _ _ h => h) (Or.inl ⟨by rfl, ?_⟩) ?_ ?_
       rotate_left
       ·
        intro w'
        go_simp
        with_reducible rfl
       rotate_left
       · exact bA
       refine pure_ (i := 5) (N := some 15) (v := ?_) (a' := ?_) #[true, true, true, true, true, true, false, false, false, false, false, false, false, false, false, false] rfl rfl (any_of HT_.out (by kernel_rfl)) (fun _ _ _ h => h) (Or.inl ⟨by rfl, ?_⟩) ?_ ?_
       rotate_left
       ·
        intro w'
        go_simp
        with_reducible rfl
       rotate_left
       · exact bA
       refine pure_ (i := 6) (N := some 16) (v := ?_) (a' := ?_) #[true, true, true, true, true, true, true, false, false, false, false, false, false, false, false, false] rfl rfl (any_of HT_.out (by kernel_rfl)) (fun _ _ _ h => h) (Or.inl ⟨by rfl, ?_⟩) ?_ ?_
       rotate_left
       ·
        intro w'
        go_simp
        with_reducible rfl
       rotate_left
       · exact bA
       refine pure_ (i := 8) (N := some 18) (v := ?_) (a' := ?_) #[true, true, true, true, true, true, true, false, true, false, false, false, false, false, false, false] rfl rfl (any_of HT_.out (by kernel_rfl)) (fun _ _ _ h => h) (Or.inl ⟨by rfl, ?_⟩) ?_ ?_
       rotate_left
       ·
        intro w'
        go_simp
        with_reducible rfl
       rotate_left
       · exact bA
       refine pure_ (i := 9) (N := some 19) (v := ?_) (a' := ?_) #[true, true, true, true, true, true, true, false, true, true, false, false, false, false, false, false] rfl rfl (any_of HT_.out (by kernel_rfl)) (fun _ _ _ h => h) (Or.inl ⟨by rfl, ?_⟩) ?_ ?_
       rotate_left
       ·
        intro w'
        go_simp
        with_reducible rfl
       rotate_left
       · exact bA
       refine pure_ (i := 10) (N := some 20) (v := ?_) (a' := ?_) #[true, true, true, true, true, true, true, false, true, true, true, false, false, false, false, false] rfl rfl (any_of HT_.out (by kernel_rfl)) (fun _ _ _ h => h) (Or.inl ⟨by rfl, ?_⟩) ?_ ?_
       rotate_left
       ·
        intro w'
        go_simp
        with_reducible rfl
       rotate_left
       · exact bA
       refine take_ (i := 7) (N := some 17) (v := ?_) (a' := ?_) #[true, true, true, true, true, true, true, true, true, true, true, false, false, false, false, false] rfl rfl (take_ofW HT_.out HW_.out (by kernel_rfl)) (fun _ _ _ h => h) (Or.inl ⟨by rfl, ?_⟩) hHeld ?_ ?_
       rotate_left
       ·
        rintro w' ⟨s0, s1, s2, s3, s4, s5⟩
        go_simp
        with_reducible rfl
       rotate_left
       · exact bA
       refine take_ (i := 11) (N := some 21) (v := ?_) (a' := ?_) #[true, true, true, true, true, true, true, true, true, true, true, true, false, false, false, false] rfl rfl (take_ofW HT_.out HW_.out (by kernel_rfl)) (fun _ _ _ h => h) (Or.inl ⟨by rfl, ?_⟩) hHeld ?_ ?_
       rotate_left
       ·
        rintro w' ⟨s0, s1, s2, s3, s4, s5⟩
        go_simp
        with_reducible rfl
       rotate_left
       · exact bA
       refine pure_ (i := 12) (N := some 22) (v := ?_) (a' := ?_) #[true, true, true, true, true, true, true, true, true, true, true, true, true, false, false, false] rfl rfl (any_of HT_.out (by kernel_rfl)) (fun _ _ _ h => h) (Or.inl ⟨by rfl, ?_⟩) ?_ ?_
       rotate_left
       ·
        intro w'
        go_simp
        with_reducible rfl
       rotate_left
       · exact bA
       refine last_ (i := 13) (N := none) #[true, true, true, true, true, true, true, true, true, true, true, true, true, true, false, false] rfl rfl (one_of HT_.out (by kernel_rfl)) (by decide) (fun K hK => ?_)
       refine skip_ (w1 := ?_) (by rfl) rfl ?_ ?_
       rotate_left
       ·
        go_simp
        rfl
       refine hK.out _ _ ?_
       clear hK K
       refine pure_ (i := 14) (N := some 23) (v := ?_) (a' := ?_) #[true, true, true, true, true, true, true, true, true, true, true, true, true, true, true, false] rfl rfl (any_of HT_.out (by kernel_rfl)) (fun _ _ _ h => h) (Or.inl ⟨by rfl, ?_⟩) ?_ ?_
       rotate_left
       ·
        intro w'
        go_simp
        with_reducible rfl
       rotate_left
       · exact bA
       refine last_ (i := 15) (N := none) #[true, true, true, true, true, true, true, true, true, true, true, true, true, true, true, true] rfl rfl (one_of HT_.out (by kernel_rfl)) (by decide) (fun K hK => ?_)
       refine skip_ (w1 := ?_) (by rfl) rfl ?_ ?_
       rotate_left
       ·
        go_simp
        rfl
       refine hK.out _ _ ?_
       clear hK K
       refine done_ (done_of HT_.out (by kernel_rfl)) ?_
       try go_wp2
       go_ret
       exact ⟨_, by first | rfl | (simp [errW_none, errW_some] <;> rfl) | (simp [*, errW_none, errW_some] <;> rfl), by (with_reducible repeat (first | apply Kd.R_alloc | apply Kd.R_drewN | apply Kd.R_drew)); exact HQ16.out, by repeat (first | (with_reducible first | exact HB.out | apply below_alloc | apply pw_below_drewN | apply below_drew1 | refine below_set ?_ GB10.out | refine below_set ?_ GB10.out | refine below_set ?_ GB10.out | refine below_set ?_ GB10.out | refine below_set ?_ GB10.out | refine below_set ?_ GB10.out) | exact HB.out)⟩
      ·
       rw [if_neg c11] at H
       exact absurd H (by simp)
     ·
      rw [if_neg c9] at H
      exact absurd H (by simp)
    ·
     rw [if_neg c8] at H
     exact absurd H (by simp)
   ·
    rw [if_neg c7] at H
    exact absurd H (by simp)
  ·
   rw [if_neg c6] at H
   exact absurd H (by simp)
 ·
  rw [if_neg c5] at H
  exact absurd H (by simp)
mutual
def samphireref11_Lift.j0 : Nat → List (S25) → Int → Bool → Option ((List (S25)))
 | 0, _, _, _ => none
 | k + 1, x0, x1, x20 => if x20 = true then (some x0) else ((samphireref11_swap.f x0 x1 (wrap64 (Int.tdiv (wrap64 (x1 - 1)) 2))).bind fun t285 => ((samphireref11_Lift.f k t285 (wrap64 (Int.tdiv (wrap64 (x1 - 1)) 2))).bind fun t288 => (some t288)))
def samphireref11_Lift.f : Nat → List (S25) → Int → Option ((List (S25)))
 | 0, _, _ => none
 | k + 1, l0, a1 => if a1 = 0 then (samphireref11_Lift.j0 k l0 a1 true) else (if 0 ≤ a1 then (if a1 < (l0.length : Int) then (if 0 ≤ (wrap64 (Int.tdiv (wrap64 (a1 - 1)) 2)) then (if (wrap64 (Int.tdiv (wrap64 (a1 - 1)) 2)) < (l0.length : Int) then ((samphireref10_Cmp.f ((rd_T25 l0 a1).f0) ((rd_T25 l0 a1).f1) ((rd_T25 l0 a1).f2) ((rd_T25 l0 (wrap64 (Int.tdiv (wrap64 (a1 - 1)) 2))).f0) ((rd_T25 l0 (wrap64 (Int.tdiv (wrap64 (a1 - 1)) 2))).f1) ((rd_T25 l0 (wrap64 (Int.tdiv (wrap64 (a1 - 1)) 2))).f2)).bind fun t284 => (samphireref11_Lift.j0 k l0 a1 (decide (t284 ≤ 0)))) else (none)) else (none)) else (none)) else (none))
end
def samphireref11_Lift.T1 : Bool × List (List Nat × List Nat) := (true, [([], []), ([0], [0]), ([1], [1]), ([2], [2]), ([2], [2]), ([3, 4, 2], [2, 3, 4]), ([5, 2], [2, 5]), ([2], [2]), ([2], [2]), ([8, 2], [2, 8]), ([9, 2], [2, 9]), ([7, 10, 2], [2, 7, 10]), ([11, 2], [2, 11]), ([6, 12, 2, 2], [2, 6, 12]), ([13, 2], [2, 13]), ([2, 14], [2, 14])])
def samphireref11_Lift.B1 : List Nat := [0, 1, 3, 7, 7, 31, 63, 7, 7, 263, 775, 1927, 3975, 8191, 16383, 32767]
theorem samphireref11_Lift.tab1 : rtab .any (opsOf Try.f18 1) = samphireref11_Lift.T1 := by kernel_rfl
theorem samphireref11_Lift.bits1 : waitsOk samphireref11_Lift.T1.2 samphireref11_Lift.B1 = true := by kernel_rfl
set_option maxHeartbeats 8000000 in
set_option maxRecDepth 100000 in
theorem samphireref11_Lift.calls (k : Nat) : ∀ (P0_ : Nat → Prop) (A0 : Option Addr) (c0 : Nat) (l0 : List (S25)) (a1 : Int) (r : List (S25)) (w : World) (hs0 : Kd.V k25 25 w w.heap.size (fun k_ => P0_ k_) (.slice A0 l0.length c0) l0) (h : samphireref11_Lift.f k l0 a1 = some r),
  Calls Try.prog 18 #[.slice A0 l0.length c0, .int .i64 a1] w fun e w' => ∃ v0_ : Value, e = .returned (v0_) ∧ Kd.V k25 25 w' w.heap.size (fun k_ => (P0_ k_ ∨ w.heap.size ≤ k_)) v0_ r ∧ Below w.heap.size w w' := by
 induction k using Nat.strongRecOn with
 | _ k ih =>
 intro P0_ A0 c0 l0 a1 r w hs0 h
 cases k with
 | zero => exact absurd h (by simp [samphireref11_Lift.f])
 | succ k =>
 simp only [samphireref11_Lift.f] at h
 have hu25 := Try.underlying25
 have HO0 := Aside0.mk (show Kd.V k25 25 w w.heap.size (fun k_ => (P0_ k_ ∨ w.heap.size ≤ k_)) (.slice A0 l0.length c0) l0 from Kd.V_mono hs0 (fun k_ hk => .inl hk))
 have HB := Aside0.mk (Below.refl w.heap.size w)
 have H : (if a1 = 0 then (samphireref11_Lift.j0 k l0 a1 true) else (if 0 ≤ a1 then (if a1 < (l0.length : Int) then (if 0 ≤ (wrap64 (Int.tdiv (wrap64 (a1 - 1)) 2)) then (if (wrap64 (Int.tdiv (wrap64 (a1 - 1)) 2)) < (l0.length : Int) then ((samphireref10_Cmp.f ((rd_T25 l0 a1).f0) ((rd_T25 l0 a1).f1) ((rd_T25 l0 a1).f2) ((rd_T25 l0 (wrap64 (Int.tdiv (wrap64 (a1 - 1)) 2))).f0) ((rd_T25 l0 (wrap64 (Int.tdiv (wrap64 (a1 - 1)) 2))).f1) ((rd_T25 l0 (wrap64 (Int.tdiv (wrap64 (a1 - 1)) 2))).f2)).bind fun t284 => (samphireref11_Lift.j0 k l0 a1 (decide (t284 ≤ 0)))) else (none)) else (none)) else (none)) else (none))) = some r := h
 clear h
 have HC3 := Aside0.mk H
 clear H
 go_enter Try.func18, Try.ntmps18
 go_upto_region 1 with (fail)
 go_cut [20] (fun v20 wc => ∃ (kq : Nat) (x20_2 : Bool), v20 = .bool x20_2 ∧ Aside0 (samphireref11_Lift.j0 kq l0 a1 x20_2 = some r) ∧ Aside0 (kq ≤ k) ∧ Aside0 (Kd.V k25 25 wc w.heap.size (fun k_ => (P0_ k_ ∨ w.heap.size ≤ k_)) (.slice A0 l0.length c0) l0) ∧ Aside0 (Below w.heap.size w wc))
 case first =>
  have H := HC3.out
  clear HC3
  by_cases c4 : a1 = 0
  ·
   rw [if_pos c4] at H
   have c4b0 : (a1 == 0) = true := beq_iff_eq.mpr c4
   have c4b1 : (a1 != 0) = false := bne_eq_false_iff_eq.mpr c4
   clear c4
   (first | rw [c4b0] | (simp only [i64_w, i32_w]; rw [c4b0]) | skip)
   have H' := Aside0.mk H
   clear H
   try go_wp2
   have n0_ := Aside0.mk (Kd.V_drew HO0.out)
   have n1_ := Aside0.mk (below_drew1 HB.out)
   clear HO0 HB
   have HO0 := n0_
   have HB := n1_
   clear n0_ n1_
   refine start_ (n := 16) (S := fun w' => True) (ds := []) #[false, false, false, false, false, false, false, false, false, false, false, false, false, false, false, false] (by kernel_rfl) rfl rfl trivial (fun hHeld => ?_); refine with_tabW samphireref11_Lift.tab1 samphireref11_Lift.bits1 (fun HT_ HW_ => ?_)
   generalize w.drew = w5 at HO0 HB hHeld ⊢
   refine pure_ (i := 0) (N := some 5) (v := ?_) (a' := ?_) #[true, false, false, false, false, false, false, false, false, false, false, false, false, false, false, false] rfl rfl (any_of HT_.out (by kernel_rfl)) (fun _ _ _ h => h) (Or.inl ⟨by rfl, ?_⟩) ?_ ?_
   rotate_left
   ·
    intro w'
    go_simp
    with_reducible rfl
   rotate_left
   · exact bA
   refine pure_ (i := 1) (N := some 6) (v := ?_) (a' := ?_) #[true, true, false, false, false, false, false, false, false, false, false, false, false, false, false, false] rfl rfl (any_of HT_.out (by kernel_rfl)) (fun _ _ _ h => h) (Or.inl ⟨by rfl, ?_⟩) ?_ ?_
   rotate_left
   ·
    intro w'
    go_simp
    with_reducible rfl
   rotate_left
   · exact bA
   refine pure_ (i := 2) (N := some 7) (v := ?_) (a' := ?_) #[true, true, true, false, false, false, false, false, false, false, false, false, false, false, false, false] rfl rfl (any_of HT_.out (by kernel_rfl)) (fun _ _ _ h => h) (Or.inl ⟨by rfl, ?_⟩) ?_ ?_
   rotate_left
   ·
    intro w'
    go_simp
    with_reducible rfl
   rotate_left
   · exact bA
   refine pure_ (i := 3) (N := some 8) (v := undef) (a' := ?_) #[true, true, true, true, false, false, false, false, false, false, false, false, false, false, false, false] rfl rfl (any_of HT_.out (by kernel_rfl)) (fun _ _ _ h => h) (Or.inr ⟨by rfl, rfl⟩) ?_ ?_
   rotate_left
   · exact bA
   refine pure_ (i := 4) (N := some 9) (v := undef) (a' := ?_) #[true, true, true, true, true, false, false, false, false, false, false, false, false, false, false, false] rfl rfl (any_of HT_.out (by kernel_rfl)) (fun _ _ _ h => h) (Or.inr ⟨by rfl, rfl⟩) ?_ ?_
   rotate_left
   · exact bA
   refine pure_ (i := 5) (N := some 10) (v := undef) (a' := ?_) #[true, true, true, true, true, true, false, false, false, false, false, false, false, false, false, false] rfl rfl (any_of HT_.out (by kernel_rfl)) (fun _ _ _ h => h) (Or.inr ⟨by rfl, rfl⟩) ?_ ?_
   rotate_left
   · exact bA
   refine pure_ (i := 6) (N := some 11) (v := undef) (a' := ?_) #[true, true, true, true, true, true, true, false, false, false, false, false, false, false, false, false] rfl rfl (any_of HT_.out (by kernel_rfl)) (fun _ _ _ h => h) (Or.inr ⟨by rfl, rfl⟩) ?_ ?_
   rotate_left
   · exact bA
   refine pure_ (i := 7) (N := some 12) (v := undef) (a' := ?_) #[true, true, true, true, true, true, true, true, false, false, false, false, false, false, false, false] rfl rfl (any_of HT_.out (by kernel_rfl)) (fun _ _ _ h => h) (Or.inr ⟨by rfl, rfl⟩) ?_ ?_
   rotate_left
   · exact bA
   refine pure_ (i := 8) (N := some 13) (v := undef) (a' := ?_) #[true, true, true, true, true, true, true, true, true, false, false, false, false, false, false, false] rfl rfl (any_of HT_.out (by kernel_rfl)) (fun _ _ _ h => h) (Or.inr ⟨by rfl, rfl⟩) ?_ ?_
   rotate_left
   · exact bA
   refine pure_ (i := 9) (N := some 14) (v := undef) (a' := ?_) #[true, true, true, true, true, true, true, true, true, true, false, false, false, false, false, false] rfl rfl (any_of HT_.out (by kernel_rfl)) (fun _ _ _ h => h) (Or.inr ⟨by rfl, rfl⟩) ?_ ?_
   rotate_left
   · exact bA
   refine pure_ (i := 10) (N := some 15) (v := undef) (a' := ?_) #[true, true, true, true, true, true, true, true, true, true, true, false, false, false, false, false] rfl rfl (any_of HT_.out (by kernel_rfl)) (fun _ _ _ h => h) (Or.inr ⟨by rfl, rfl⟩) ?_ ?_
   rotate_left
   · exact bA
   refine pure_ (i := 11) (N := some 16) (v := undef) (a' := ?_) #[true, true, true, true, true, true, true, true, true, true, true, true, false, false, false, false] rfl rfl (any_of HT_.out (by kernel_rfl)) (fun _ _ _ h => h) (Or.inr ⟨by rfl, rfl⟩) ?_ ?_
   rotate_left
   · exact bA
   refine pure_ (i := 12) (N := some 17) (v := undef) (a' := ?_) #[true, true, true, true, true, true, true, true, true, true, true, true, true, false, false, false] rfl rfl (any_of HT_.out (by kernel_rfl)) (fun _ _ _ h => h) (Or.inr ⟨by rfl, rfl⟩) ?_ ?_
   rotate_left
   · exact bA
   refine pure_ (i := 13) (N := some 18) (v := undef) (a' := ?_) #[true, true, true, true, true, true, true, true, true, true, true, true, true, true, false, false] rfl rfl (any_of HT_.out (by kernel_rfl)) (fun _ _ _ h => h) (Or.inr ⟨by rfl, rfl⟩) ?_ ?_
   rotate_left
   · exact bA
   refine pure_ (i := 14) (N := some 19) (v := undef) (a' := ?_) #[true, true, true, true, true, true, true, true, true, true, true, true, true, true, true, false] rfl rfl (any_of HT_.out (by kernel_rfl)) (fun _ _ _ h => h) (Or.inr ⟨by rfl, rfl⟩) ?_ ?_
   rotate_left
   · exact bA
   refine pure_ (i := 15) (N := some 20) (v := ?_) (a' := ?_) #[true, true, true, true, true, true, true, true, true, true, true, true, true, true, true, true] rfl rfl (any_of HT_.out (by kernel_rfl)) (fun _ _ _ h => h) (Or.inl ⟨by rfl, ?_⟩) ?_ ?_
   rotate_left
   ·
    intro w'
    go_simp
    with_reducible rfl
   rotate_left
   · exact bA
   refine done_ (done_of HT_.out (by kernel_rfl)) ?_
   try go_wp2
   go_meet
   case rel => exact ⟨_, (true), (by first | rfl | (simp; done) | (simp [*]; done)), H', ⟨by first | omega | exact Nat.le_refl _⟩, ⟨by (with_reducible repeat (first | apply Kd.V_alloc | apply Kd.V_drewN | apply Kd.V_drew)); exact HO0.out⟩, ⟨by repeat (first | (with_reducible first | exact HB.out | apply below_alloc | apply pw_below_drewN | apply below_drew1) | exact HB.out)⟩⟩
  ·
   rw [if_neg c4] at H
   have c4b0 : (a1 == 0) = false := beq_eq_false_iff_ne.mpr c4
   have c4b1 : (a1 != 0) = true := bne_iff_ne.mpr c4
   (first | rw [c4b0] | (simp only [i64_w, i32_w]; rw [c4b0]) | skip)
   by_cases c6 : 0 ≤ a1
   ·
    rw [if_pos c6] at H
    have c6b0 : decide (0 ≤ a1) = true := decide_eq_true c6
    clear c6
    by_cases c7 : a1 < (l0.length : Int)
    ·
     rw [if_pos c7] at H
     have c7b0 : decide (a1 < (l0.length : Int)) = true := decide_eq_true c7
     clear c7
     obtain ⟨ji8, hji8⟩ : ∃ j_ : Int, (wrap64 (Int.tdiv (wrap64 (a1 - 1)) 2)) = j_ := ⟨_, rfl⟩
     replace H : (if 0 ≤ (ji8) then (if (ji8) < (l0.length : Int) then ((samphireref10_Cmp.f ((rd_T25 l0 a1).f0) ((rd_T25 l0 a1).f1) ((rd_T25 l0 a1).f2) ((rd_T25 l0 (ji8)).f0) ((rd_T25 l0 (ji8)).f1) ((rd_T25 l0 (ji8)).f2)).bind fun t284 => (samphireref11_Lift.j0 k l0 a1 (decide (t284 ≤ 0)))) else (none)) else (none)) = some r := by first | (rw [hji8] at H; exact H) | (simp only [hji8] at H ⊢; exact H)
     have hji8w : (IntKind.i64.wrap (Int.tdiv (wrap64 (a1 - 1)) 2)) = ji8 := (i64_w _).trans hji8
     by_cases c9 : 0 ≤ (ji8)
     ·
      rw [if_pos c9] at H
      have c9b0 : decide (0 ≤ (ji8)) = true := decide_eq_true c9
      clear c9
      by_cases c10 : (ji8) < (l0.length : Int)
      ·
       rw [if_pos c10] at H
       have c10b0 : decide ((ji8) < (l0.length : Int)) = true := decide_eq_true c10
       clear c10
       replace H := Option.bind_eq_some_iff.mp H
       obtain ⟨t284, A110, H⟩ := H
       replace H : (samphireref11_Lift.j0 k l0 a1 (decide (t284 ≤ 0))) = some r := H
       have A11 := Aside0.mk A110
       clear A110
       have H' := Aside0.mk H
       clear H
       try go_wp2
       have n0_ := Aside0.mk (Kd.V_drew HO0.out)
       have n1_ := Aside0.mk (below_drew1 HB.out)
       clear HO0 HB
       have HO0 := n0_
       have HB := n1_
       clear n0_ n1_
       have p282 : 0 ≤ (a1 : Int) := of_decide_eq_true (by first | (with_reducible assumption) | assumption)
       have q282 : a1 < (l0.length : Int) := of_decide_eq_true (by first | (with_reducible assumption) | assumption)
       obtain ⟨ad282, e282, hx282_0, hx282_1, hx282_2⟩ := at_T25 (Kd.V_reads' HO0.out).2.2 a1 p282 q282
       cases e282
       replace p282 := eq_true p282
       replace q282 := eq_true q282
       have p283 : 0 ≤ ((ji8) : Int) := of_decide_eq_true (by first | (with_reducible assumption) | assumption)
       have q283 : (ji8) < (l0.length : Int) := of_decide_eq_true (by first | (with_reducible assumption) | assumption)
       obtain ⟨ad283, e283, hx283_0, hx283_1, hx283_2⟩ := at_T25 (Kd.V_reads' HO0.out).2.2 (ji8) p283 q283
       obtain rfl : ad282 = ad283 := (by injection e283)
       replace p283 := eq_true p283
       replace q283 := eq_true q283
       refine start_ (n := 16) (S := fun w' => w'.cell? (ad282.add ((a1).toNat * 3)) = some (.string ((rd_T25 l0 a1).f0)) ∧ w'.cell? ⟨(ad282.add ((a1).toNat * 3)).block, (ad282.add ((a1).toNat * 3)).off + 1, none⟩ = some (.int .u64 ((rd_T25 l0 a1).f1)) ∧ w'.cell? ⟨(ad282.add ((a1).toNat * 3)).block, (ad282.add ((a1).toNat * 3)).off + 2, none⟩ = some (.int .u64 ((rd_T25 l0 a1).f2)) ∧ w'.cell? (ad282.add (((ji8)).toNat * 3)) = some (.string ((rd_T25 l0 (ji8)).f0)) ∧ w'.cell? ⟨(ad282.add (((ji8)).toNat * 3)).block, (ad282.add (((ji8)).toNat * 3)).off + 1, none⟩ = some (.int .u64 ((rd_T25 l0 (ji8)).f1)) ∧ w'.cell? ⟨(ad282.add (((ji8)).toNat * 3)).block, (ad282.add (((ji8)).toNat * 3)).off + 2, none⟩ = some (.int .u64 ((rd_T25 l0 (ji8)).f2))) (ds := []) #[false, false, false, false, false, false, false, false, false, false, false, false, false, false, false, false] (by kernel_rfl) rfl rfl ⟨hx282_0, hx282_1, hx282_2, hx283_0, hx283_1, hx283_2⟩ (fun hHeld => ?_); refine with_tabW samphireref11_Lift.tab1 samphireref11_Lift.bits1 (fun HT_ HW_ => ?_)
       generalize w.drew = w12 at HO0 HB hx282_0 hx282_1 hx282_2 hx283_0 hx283_1 hx283_2 hHeld ⊢
       refine pure_ (i := 0) (N := some 5) (v := ?_) (a' := ?_) #[true, false, false, false, false, false, false, false, false, false, false, false, false, false, false, false] rfl rfl (any_of HT_.out (by kernel_rfl)) (fun _ _ _ h => h) (Or.inl ⟨by rfl, ?_⟩) ?_ ?_
       rotate_left
       ·
        intro w'
        go_simp
        with_reducible rfl
       rotate_left
       · exact bA
       refine pure_ (i := 1) (N := some 6) (v := ?_) (a' := ?_) #[true, true, false, false, false, false, false, false, false, false, false, false, false, false, false, false] rfl rfl (any_of HT_.out (by kernel_rfl)) (fun _ _ _ h => h) (Or.inl ⟨by rfl, ?_⟩) ?_ ?_
       rotate_left
       ·
        intro w'
        go_simp
        with_reducible rfl
       rotate_left
       · exact bA
       refine pure_ (i := 2) (N := some 7) (v := ?_) (a' := ?_) #[true, true, true, false, false, false, false, false, false, false, false, false, false, false, false, false] rfl rfl (any_of HT_.out (by kernel_rfl)) (fun _ _ _ h => h) (Or.inl ⟨by rfl, ?_⟩) ?_ ?_
       rotate_left
       ·
        intro w'
        go_simp
        with_reducible rfl
       rotate_left
       · exact bA
       refine pure_ (i := 3) (N := some 8) (v := ?_) (a' := ?_) #[true, true, true, true, false, false, false, false, false, false, false, false, false, false, false, false] rfl rfl (any_of HT_.out (by kernel_rfl)) (fun _ _ _ h => h) (Or.inl ⟨by rfl, ?_⟩) ?_ ?_
       rotate_left
       ·
        intro w'
        go_simp
        with_reducible rfl
       rotate_left
       · exact bA
       refine pure_ (i := 4) (N := some 9) (v := ?_) (a' := ?_) #[true, true, true, true, true, false, false, false, false, false, false, false, false, false, false, false] rfl rfl (any_of HT_.out (by kernel_rfl)) (fun _ _ _ h => h) (Or.inl ⟨by rfl, ?_⟩) ?_ ?_
       rotate_left
       ·
        intro w'
        go_simp
        with_reducible rfl
       rotate_left
       · exact bA
       refine pure_ (i := 5) (N := some 10) (v := ?_) (a' := ?_) #[true, true, true, true, true, true, false, false, false, false, false, false, false, false, false, false] rfl rfl (any_of HT_.out (by kernel_rfl)) (fun _ _ _ h => h) (Or.inl ⟨by rfl, ?_⟩) ?_ ?_
       rotate_left
       ·
        intro w'
        go_simp
        with_reducible rfl
       rotate_left
       · exact bA
       refine pure_ (i := 7) (N := some 12) (v := ?_) (a' := ?_) #[true, true, true, true, true, true, false, true, false, false, false, false, false, false, false, false] rfl rfl (any_of HT_.out (by kernel_rfl)) (fun _ _ _ h => h) (Or.inl ⟨by rfl, ?_⟩) ?_ ?_
       rotate_left
       ·
        intro w'
        go_simp
        with_reducible rfl
       rotate_left
       · exact bA
       refine pure_ (i := 8) (N := some 13) (v := ?_) (a' := ?_) #[true, true, true, true, true, true, false, true, true, false, false, false, false, false, false, false] rfl rfl (any_of HT_.out (by kernel_rfl)) (fun _ _ _ h => h) (Or.inl ⟨by rfl, ?_⟩) ?_ ?_
       rotate_left
       ·
        intro w'
        go_simp
        with_reducible rfl
       rotate_left
       · exact bA
       refine pure_ (i := 9) (N := some 14) (v := ?_) (a' := ?_) #[true, true, true, true, true, true, false, true, true, true, false, false, false, false, false, false] rfl rfl (any_of HT_.out (by kernel_rfl)) (fun _ _ _ h => h) (Or.inl ⟨by rfl, ?_⟩) ?_ ?_
       rotate_left
       ·
        intro w'
        go_simp
        with_reducible rfl
       rotate_left
       · exact bA
       refine pure_ (i := 10) (N := some 15) (v := ?_) (a' := ?_) #[true, true, true, true, true, true, false, true, true, true, true, false, false, false, false, false] rfl rfl (any_of HT_.out (by kernel_rfl)) (fun _ _ _ h => h) (Or.inl ⟨by rfl, ?_⟩) ?_ ?_
       rotate_left
       ·
        intro w'
        go_simp
        with_reducible rfl
       rotate_left
       · exact bA
       refine pure_ (i := 11) (N := some 16) (v := ?_) (a' := ?_) #[true, true, true, true, true, true, false, true, true, true, true, true, false, false, false, false] rfl rfl (any_of HT_.out (by kernel_rfl)) (fun _ _ _ h => h) (Or.inl ⟨by rfl, ?_⟩) ?_ ?_
       rotate_left
       ·
        intro w'
        go_simp
        with_reducible rfl
       rotate_left
       · exact bA
       refine take_ (i := 6) (N := some 11) (v := ?_) (a' := ?_) #[true, true, true, true, true, true, true, true, true, true, true, true, false, false, false, false] rfl rfl (take_ofW HT_.out HW_.out (by kernel_rfl)) (fun _ _ _ h => h) (Or.inl ⟨by rfl, ?_⟩) hHeld ?_ ?_
       rotate_left
       ·
        rintro w' ⟨s0, s1, s2, s3, s4, s5⟩
        go_simp
        with_reducible rfl
       rotate_left
       · exact bA
       refine take_ (i := 12) (N := some 17) (v := ?_) (a' := ?_) #[true, true, true, true, true, true, true, true, true, true, true, true, true, false, false, false] rfl rfl (take_ofW HT_.out HW_.out (by kernel_rfl)) (fun _ _ _ h => h) (Or.inl ⟨by rfl, ?_⟩) hHeld ?_ ?_
       rotate_left
       ·
        rintro w' ⟨s0, s1, s2, s3, s4, s5⟩
        go_simp
        with_reducible rfl
       rotate_left
       · exact bA
       refine one_ (i := 13) (N := some 18) #[true, true, true, true, true, true, true, true, true, true, true, true, true, true, false, false] rfl rfl (one_of HT_.out (by kernel_rfl)) (by decide) (fun K hK => ?_)
       refine goes_ Try.func32 (by kernel_rfl) rfl #[.agg #[.string ((rd_T25 l0 a1).f0), .int .u64 ((rd_T25 l0 a1).f1), .int .u64 ((rd_T25 l0 a1).f2)], .agg #[.string ((rd_T25 l0 (ji8)).f0), .int .u64 ((rd_T25 l0 (ji8)).f1), .int .u64 ((rd_T25 l0 (ji8)).f2)]] (by rfl) rfl rfl (by (try simp only [List.map_toArray, List.map_cons, List.map_nil]); first | done | (simp only [hji8]; rfl) | rfl | (simp only [List.length_drop, List.length_take]; rfl)) ?_
       with_reducible refine (samphireref10_Cmp.calls ((rd_T25 l0 a1).f0) ((rd_T25 l0 a1).f1) ((rd_T25 l0 a1).f2) ((rd_T25 l0 (ji8)).f0) ((rd_T25 l0 (ji8)).f1) ((rd_T25 l0 (ji8)).f2) t284 _ A11.out).mono ?_
       rintro e w13 ⟨rfl, hb⟩
       have HS0_ := (hb.cell (World.block_lt_of_cell? _ _ (hHeld.1))).trans (hHeld.1)
       have HS1_ := (hb.cell (World.block_lt_of_cell? _ _ (hHeld.2.1))).trans (hHeld.2.1)
       have HS2_ := (hb.cell (World.block_lt_of_cell? _ _ (hHeld.2.2.1))).trans (hHeld.2.2.1)
       have HS3_ := (hb.cell (World.block_lt_of_cell? _ _ (hHeld.2.2.2.1))).trans (hHeld.2.2.2.1)
       have HS4_ := (hb.cell (World.block_lt_of_cell? _ _ (hHeld.2.2.2.2.1))).trans (hHeld.2.2.2.2.1)
       have HS5_ := (hb.cell (World.block_lt_of_cell? _ _ (hHeld.2.2.2.2.2))).trans (hHeld.2.2.2.2.2)
       refine ⟨_, rfl, ?_⟩
       have n0_ := Aside0.mk (Kd.V_below (by (with_reducible repeat (first | apply Kd.V_alloc | apply Kd.V_drewN | apply Kd.V_drew)); exact HO0.out) hb)
       have n1_ := Aside0.mk (below_step (bW HB.out) hb)
       clear HO0 HB
       have HO0 := n0_
       have HB := n1_
       clear n0_ n1_
       (try clear hb)
       (try clear hb2)
       (try clear hk)
       (try clear hi)
       refine hK.out _ _ ⟨HS0_, HS1_, HS2_, HS3_, HS4_, HS5_⟩ (fun hHeld => ?_)
       clear hK K
       refine norm_ (a' := ?_) ?_ ?_
       rotate_left
       ·
        show Act.put _ (some 18) _ = _
        simp only [Act.put, List.setIfInBounds_toArray, List.set_cons_zero, List.set_cons_succ, i64_w, i32_w]
        rfl
       refine pure_ (i := 14) (N := some 19) (v := ?_) (a' := ?_) #[true, true, true, true, true, true, true, true, true, true, true, true, true, true, true, false] rfl rfl (any_of HT_.out (by kernel_rfl)) (fun _ _ _ h => h) (Or.inl ⟨by rfl, ?_⟩) ?_ ?_
       rotate_left
       ·
        intro w'
        go_simp
        with_reducible rfl
       rotate_left
       · exact bA
       refine pure_ (i := 15) (N := some 20) (v := ?_) (a' := ?_) #[true, true, true, true, true, true, true, true, true, true, true, true, true, true, true, true] rfl rfl (any_of HT_.out (by kernel_rfl)) (fun _ _ _ h => h) (Or.inl ⟨by rfl, ?_⟩) ?_ ?_
       rotate_left
       ·
        intro w'
        go_simp
        with_reducible rfl
       rotate_left
       · exact bA
       refine done_ (done_of HT_.out (by kernel_rfl)) ?_
       try go_wp2
       go_meet
       case rel => exact ⟨_, (decide (t284 ≤ 0)), (by first | rfl | (simp; done) | (simp [*]; done)), H', ⟨by first | omega | exact Nat.le_refl _⟩, ⟨by (with_reducible repeat (first | apply Kd.V_alloc | apply Kd.V_drewN | apply Kd.V_drew)); exact HO0.out⟩, ⟨by repeat (first | (with_reducible first | exact HB.out | apply below_alloc | apply pw_below_drewN | apply below_drew1) | exact HB.out)⟩⟩
      ·
       rw [if_neg c10] at H
       exact absurd H (by simp)
     ·
      rw [if_neg c9] at H
      exact absurd H (by simp)
    ·
     rw [if_neg c7] at H
     exact absurd H (by simp)
   ·
    rw [if_neg c6] at H
    exact absurd H (by simp)
 case rest =>
  clear HC3
  try clear c1
  try clear p2
  try clear q2
  try clear hx2
  try clear c3
  try clear c4
  try clear c4b0
  try clear c4b1
  try clear c6
  try clear c6b0
  try clear p6
  try clear c7
  try clear c7b0
  try clear c9
  try clear c9b0
  try clear c10
  try clear c10b0
  try clear hx282_0
  try clear hx282_1
  try clear hx282_2
  try clear hx283_0
  try clear hx283_1
  try clear hx283_2
  try clear p282
  try clear p283
  try clear q282
  try clear q283
  obtain ⟨kq, x20_2, rfl, HA, HJ2, HO_0, HB⟩ := hcut
  cases kq with
  | zero => exact absurd HA.out (by simp [samphireref11_Lift.j0])
  | succ kj2 =>
   have H := HA.out
   clear HA
   simp only [samphireref11_Lift.j0] at H
   by_cases c14 : x20_2 = true
   ·
    subst c14
    have H1 : (some l0) = some r := by rw [if_pos rfl] at H; exact H
    clear H
    have H := H1
    clear H1
    obtain rfl := Option.some.inj H
    go_wp2
    go_ret
    exact ⟨_, by first | rfl | (simp [errW_none, errW_some] <;> rfl) | (simp [*, errW_none, errW_some] <;> rfl), by (with_reducible repeat (first | apply Kd.V_alloc | apply Kd.V_drewN | apply Kd.V_drew)); exact HO_0.out, by repeat (first | (with_reducible first | exact HB.out | apply below_alloc | apply pw_below_drewN | apply below_drew1) | exact HB.out)⟩
   ·
    replace c14 := Bool.eq_false_iff.mpr c14
    subst c14
    have H1 : ((samphireref11_swap.f l0 a1 (wrap64 (Int.tdiv (wrap64 (a1 - 1)) 2))).bind fun t285 => ((samphireref11_Lift.f kj2 t285 (wrap64 (Int.tdiv (wrap64 (a1 - 1)) 2))).bind fun t288 => (some t288))) = some r := by rw [if_neg (show ¬ (false = true) by decide)] at H; exact H
    clear H
    have H := H1
    clear H1
    replace H := Option.bind_eq_some_iff.mp H
    obtain ⟨t285, A150, H⟩ := H
    replace H : ((samphireref11_Lift.f kj2 t285 (wrap64 (Int.tdiv (wrap64 (a1 - 1)) 2))).bind fun t288 => (some t288)) = some r := H
    have A15 := Aside0.mk A150
    clear A150
    replace H := Option.bind_eq_some_iff.mp H
    obtain ⟨t288, A160, H⟩ := H
    replace H : (some t288) = some r := H
    have A16 := Aside0.mk A160
    clear A160
    obtain rfl := Option.some.inj H
    go_wp2_with (first | ((with_reducible refine gate_callee (f := 34) rfl ?_); refine goesL_ (some 27) rfl rfl Try.func34 (by kernel_rfl) rfl #[.slice A0 l0.length c0, .int .i64 a1, .int .i64 (wrap64 (Int.tdiv (wrap64 (a1 - 1)) 2))] rfl (by (try simp only [List.map_toArray, List.map_cons, List.map_nil]); first | done | rfl | (simp only [List.length_drop, List.length_take]; rfl)) ?_; (with_reducible refine (samphireref11_swap.calls _ _ l0 a1 (wrap64 (Int.tdiv (wrap64 (a1 - 1)) 2)) t285 _ ?side1 ?side2 A15.out).mono ?_); (case side1 => repeat (first | exact (Kd.V_reads' HO_0.out).2.2 | (with_reducible refine Kd.C_alloc ?_ _) | (with_reducible refine Kd.C_drewN ?_ _) | (with_reducible refine Kd.C_drew ?_))); (case side2 => exact (Kd.V_reads' HO_0.out).2.1); rintro e w17 ⟨v286, rfl, ho0, hb⟩; refine ⟨_, rfl, ?_⟩; have n0_ := Aside0.mk (Kd.V_elder' (by (with_reducible repeat (first | apply Kd.V_alloc | apply Kd.V_drewN | apply Kd.V_drew)); exact HO_0.out) (Kd.R_base ho0) hb); have n1_ := Aside0.mk (Kd.R_lower (Kd.R_newM (M := fun k_ => (w.heap.size ≤ k_)) ho0 (below_size (bW HB.out)) (fun k_ h_ => h_)) (below_size (bW HB.out))); have n2_ := Aside0.mk (below_step (bW HB.out) hb); clear HO_0 HB; have HO_0 := n0_; have HO287 := n1_; have HB := n2_; clear n0_ n1_ n2_; (try clear hb); (try clear hb2); (try clear hk); (try clear hi); (try clear ho0); obtain ⟨Ao18, co18, eo18⟩ := Kd.R_slice HO287.out; subst eo18) | ((with_reducible refine gate_callee (f := 18) rfl ?_); refine goesL_ (some 31) rfl rfl Try.func18 (by kernel_rfl) rfl #[.slice Ao18 t285.length co18, .int .i64 (wrap64 (Int.tdiv (wrap64 (a1 - 1)) 2))] rfl (by (try simp only [List.map_toArray, List.map_cons, List.map_nil]); first | done | rfl | (simp only [List.length_drop, List.length_take]; rfl)) ?_; (with_reducible refine (ih kj2 (by have := HJ2.out; omega) (fun k_ => some k_ = (.slice Ao18 t285.length co18 : Value).ownBlock) _ _ t285 (wrap64 (Int.tdiv (wrap64 (a1 - 1)) 2)) t288 _ ?side1 A16.out).mono ?_); (case side1 => exact Kd.R_V (Kd.R_tight rfl (HO287.out))); rintro e w19 ⟨v289, rfl, ho0, hb⟩; refine ⟨_, rfl, ?_⟩; have n0_ := Aside0.mk (Kd.V_below (by (with_reducible repeat (first | apply Kd.V_alloc | apply Kd.V_drewN | apply Kd.V_drew)); exact HO_0.out) hb); have n1_ := Aside0.mk (Kd.R_below (by (with_reducible repeat (first | apply Kd.R_alloc | apply Kd.R_drewN | apply Kd.R_drew)); exact HO287.out) hb); have n2_ := Aside0.mk (Kd.V_lower (Kd.V_mono (ok' := fun k_ => (P0_ k_ ∨ w.heap.size ≤ k_)) ho0 (fun k_ hk_ => Or.elim hk_ (fun hs_ => (.inr (((HO287.out).1 k_ hs_.symm).1))) (fun hn_ => (.inr (Nat.le_trans (below_size (bW HB.out)) hn_))))) (below_size (bW HB.out))); have n3_ := Aside0.mk (below_step (bW HB.out) hb); clear HO_0 HO287 HB; have HO_0 := n0_; have HO287 := n1_; have HO290 := n2_; have HB := n3_; clear n0_ n1_ n2_ n3_; (try clear hb); (try clear hb2); (try clear hk); (try clear hi); (try clear ho0)))
    go_ret
    exact ⟨_, by first | rfl | (simp [errW_none, errW_some] <;> rfl) | (simp [*, errW_none, errW_some] <;> rfl), by (with_reducible repeat (first | apply Kd.V_alloc | apply Kd.V_drewN | apply Kd.V_drew)); exact HO290.out, by repeat (first | (with_reducible first | exact HB.out | apply below_alloc | apply pw_below_drewN | apply below_drew1) | exact HB.out)⟩
end Go.Proofs.Ytobdhjnaglikaaa.Q
